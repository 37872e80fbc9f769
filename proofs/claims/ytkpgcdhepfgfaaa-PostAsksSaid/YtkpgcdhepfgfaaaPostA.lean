/-
  PostAsks. Own work, printed in part by a program of its own.
-/
import Derived.Test.YtkpgcdhepfgfaaaPostK
import Derived.Test.YtkpgcdhepfgfaaaPostY
namespace Go.Proofs.Ytkpgcdhepfgfaaa.L
open Go.L Go.L.Ring Go.L.Post
attribute [local irreducible] aS
abbrev qp (q : Nat × PO) : Value := ptr q.1 0
abbrev qa (X : BX) (B : PB) (q : Nat × PO) : Assn := postA X B q.1 q.2
theorem qsnd_get {xs : List (Nat × PO)} {j p : Nat} {o : PO} (h : xs[j]? = some (p, o)) : (xs.map (·.2)).getD j pz = o := by simp [List.getD_eq_getElem?_getD, h]
theorem qset_same {xs : List (Nat × PO)} {j : Nat} {q : Nat × PO} (h : xs[j]? = some q) : xs.set j q = xs := by
  obtain ⟨hj, e⟩ := List.getElem?_eq_some_iff.1 h
  rw [← e]; exact List.set_getElem_self hj
theorem qfam_set {α : Type} (f : α → Assn) (xs : List α) (j : Nat) (q : α) : (xs.map f).set j (f q) = (xs.set j q).map f := (List.map_set ..).symm
theorem qsnd_set (xs : List (Nat × PO)) (j : Nat) (p : Nat) (o : PO) : (xs.set j (p, o)).map (·.2) = (xs.map (·.2)).set j o := List.map_set ..
theorem qp_set {xs : List (Nat × PO)} {j p : Nat} {o : PO} (h : xs[j]? = some (p, o)) (o' : PO) : (xs.set j (p, o')).map qp = xs.map qp := by
  rw [List.map_set]
  have : xs.map qp = (xs.map qp).set j (qp (p, o)) := by rw [← List.map_set, qset_same h]
  exact this.symm

set_option maxRecDepth 8000 in
theorem asks_spec (s : Nat) (hs : s ≤ 255) (a : Option Addr) (c : Nat) (vs : List Int) (hvs : ∀ x ∈ vs, 0 ≤ x ∧ x ≤ 255) (hm : vs.length ≤ 140737488351232) (A : Assn) [RdA (.slice a vs.length c) A vs.length (vs.map (fun x => Value.int .u8 x))] : FnS Try.prog 3 [.int .u8 s, .slice a vs.length c] [A]
      (fun u Bs => u = .bool true ∧ Bs = [A]) := by
  refine fn_body Try.func3 rfl rfl rfl ?_
  intro W0 R
  simp only [List.zipIdx_cons, List.zipIdx_nil, List.map_cons, List.map_nil, Nat.zero_add, Nat.reduceAdd, List.cons_append, List.nil_append]
  obtain ⟨n, hn⟩ : ∃ n, n = 1 + s % 6 := ⟨_, rfl⟩
  have h1 : 1 ≤ n := by omega
  have h6 : n ≤ 6 := by omega
  refine g_seq ?_
  refine g_region ?_
  refine gl_v rfl (o_assign rfl) ?_
  refine gl_nil ?_
  refine ge_then ?_
  refine g_seq ?_
  refine g_seq ?_
  refine g_region ?_
  refine gl_c rfl (o_call rfl (palive_spec) (by repeat (first | exact .nil | (apply Part.cons; · (repeat (first | exact .head | apply Sel.tail)))))) ?_
  rintro _ R ⟨_, ⟨rfl, rfl⟩, rfl⟩
  try simp only [List.cons_append, List.nil_append]
  refine gl_v rfl (o_not rfl) ?_
  refine gl_nil ?_
  refine ge_then ?_
  refine g_cond_false (rfl) ?_
  refine g_skip ?_
  refine ge_then ?_
  refine g_seq ?_
  refine g_region ?_
  refine gl_v rfl (o_move rfl) ?_
  refine gl_v rfl (o_convR (s : Int) (wr_i64 (by omega)) rfl) ?_
  refine gl_v rfl (o_remR ((s % 6 : Nat) : Int) (tmodn s 6) rfl rfl (by decide)) ?_
  refine gl_v rfl (o_addR (n : Int) (by rw [wr_i64 (by omega)]; omega) rfl rfl) ?_
  refine gl_v rfl (o_assign rfl) ?_
  refine gl_nil ?_
  refine ge_then ?_
  refine g_seq ?_
  refine g_region ?_
  refine gl_c rfl (o_call rfl (pmade_spec 2 8 (by decide) (by decide)) (by repeat (first | exact .nil | (apply Part.cons; · (repeat (first | exact .head | apply Sel.tail)))))) ?_
  rintro _ R ⟨_, ⟨X, t0, rfl, rfl⟩, rfl⟩
  try simp only [List.cons_append, List.nil_append]
  change GL _ _ _ _ _ _ (envA X AB a0 t0 :: _) _
  refine gl_v rfl (o_move rfl) ?_
  refine gl_v rfl (o_extract rfl rfl) ?_
  refine gl_v rfl (o_extract rfl rfl) ?_
  refine gl_v rfl (o_assign rfl) ?_
  refine gl_v rfl (o_assign rfl) ?_
  refine gl_nil ?_
  refine ge_then ?_
  refine g_seq ?_
  refine g_seq ?_
  refine g_region ?_
  refine gl_v rfl (o_move rfl) ?_
  first | refine gl_v rfl (o_eqlPn rfl rfl) ?_ | refine gl_v rfl (o_eqlnn rfl rfl) ?_
  refine gl_nil ?_
  refine ge_then ?_
  refine g_cond_false (rfl) ?_
  refine g_skip ?_
  refine ge_then ?_
  refine g_seq ?_
  refine g_region ?_
  refine gl_v rfl (o_assign rfl) ?_
  refine gl_nil ?_
  refine ge_then ?_
  refine g_cut (fun act wo => ∃ (a8 : Option Addr) (c8 : Nat) (xs : List (Nat × PO)), xs.length = n ∧ (∀ p, p < n → (xs.map (·.2)).getD p pz = ask0 p) ∧ HasSl Try.f3.ntmps [(8, .slice a8 n c8), (6, ptr X.bx 0), (5, I64 n), (1, .slice a vs.length c)] act ∧ St W0 (own (.slice a8 n c8) 29 1 n (xs.map qp) :: fam (xs.map (qa X AB)) :: envA X AB a0 t0 :: A :: R) wo) ?_ ?_
  ·
    refine g_seq ?_
    refine g_imp (own_nil0 (e := 29) (sz := 1)) ?_
    refine g_imp fam_nil ?_
    refine g_region ?_
    refine gl_v rfl (o_assign rfl) ?_
    refine gl_nil ?_
    refine ge_then ?_
    refine g_block ?_
    refine g_loop (ι := Option Addr × Nat × Nat × List (Nat × PO)) (fun x => x.2.2.1 ≤ n ∧ x.2.2.2.length = x.2.2.1 ∧ ∀ p, p < x.2.2.1 → (x.2.2.2.map (·.2)).getD p pz = ask0 p) (fun x => [(9, I64 x.2.2.1), (8, .slice x.1 x.2.2.1 x.2.1), (6, ptr X.bx 0), (5, I64 n), (1, .slice a vs.length c)]) (fun x => own (.slice x.1 x.2.2.1 x.2.1) 29 1 x.2.2.1 (x.2.2.2.map qp) :: fam (x.2.2.2.map (qa X AB)) :: envA X AB a0 t0 :: A :: R) (fun x => n - x.2.2.1) (none, 0, 0, []) (⟨Nat.zero_le _, rfl, fun p h => absurd h (Nat.not_lt_zero _)⟩) (Keep.cons rfl (Keep.cons rfl (Keep.cons rfl (Keep.cons rfl (Keep.cons rfl (Keep.nil)))))) (To.sat (by repeat (first | exact .nil | exact .done .refl | (apply To.cons; · (repeat (first | exact .head | apply Sel.tail))) | exact .done (by repeat (first | exact .refl | apply Drop.skip))))) ?_
    rintro ⟨ax, cx, k, xs⟩ ⟨hk, hxl, hxs⟩
    have hk : k ≤ n := hk
    have hxl : xs.length = k := hxl
    have hxs : ∀ p, p < k → (xs.map (·.2)).getD p pz = ask0 p := hxs
    dsimp only
    refine g_seq ?_
    refine g_seq ?_
    refine g_region ?_
    refine gl_v rfl (o_move rfl) ?_
    refine gl_v rfl (o_move rfl) ?_
    refine gl_v rfl (o_lss rfl rfl) ?_
    refine gl_nil ?_
    refine ge_then ?_
    refine g_cond rfl (fun hc1 => ?_) (fun hc1 => ?_)
    ·
      first | replace hc1 := of_decide_eq_true hc1 | replace hc1 := lt_f hc1 | replace hc1 := le_f hc1 | replace hc1 := dec_f hc1 | replace hc1 := nlt_t hc1 | replace hc1 := nle_t hc1 | replace hc1 := ndec_t hc1 | replace hc1 := ndec_f hc1 | replace hc1 := nn_t hc1 | replace hc1 := nn_f hc1 | skip
      refine g_skip ?_
      refine ge_then ?_
      refine g_seq ?_
      refine g_block ?_
      refine g_region ?_
      refine gl_v rfl (o_move rfl) ?_
      refine gl_v rfl (o_move rfl) ?_
      refine gl_v rfl (o_move rfl) ?_
      refine gl_v rfl (o_addR (100 + (k : Int)) (wr_i64 (by omega)) rfl rfl) ?_
      refine gl_v rfl (o_convR (100 + (k : Int)) (wr_u64 (by omega)) rfl) ?_
      refine gl_c rfl (o_call rfl (fns_env (bAsk_spec X AB (by decide) (100 + (k : Int)))) (by repeat (first | exact .nil | (apply Part.cons; · (repeat (first | exact .head | apply Sel.tail)))))) ?_
      rintro _ R ⟨_, ⟨p, rfl, rfl⟩, rfl⟩
      try simp only [List.cons_append, List.nil_append]
      first | refine gl_n rfl (o_buildS1 rfl rfl rfl) ?_ | refine gl_n rfl (o_buildS1A rfl rfl rfl rfl) ?_ | refine gl_n rfl (o_buildS rfl rfl rfl rfl) ?_
      rintro _ _ ⟨b44, rfl, rfl⟩
      refine gl_n rfl (o_append rfl rfl (by repeat (first | exact .nil | (apply Part.cons; · (repeat (first | exact .head | apply Sel.tail))))) rfl rfl rfl (by omega) (by unfold maxLen; omega)) ?_
      rintro _ _ ⟨a45, c45, rfl, rfl⟩
      refine gl_v rfl (o_assign rfl) ?_
      refine gl_nil ?_
      refine ge_block ?_
      refine ge_then ?_
      refine g_region ?_
      refine gl_v rfl (o_move rfl) ?_
      refine gl_v rfl (o_addR ((k + 1 : Nat) : Int) (by rw [wr_i64 (by omega)]; omega) rfl rfl) ?_
      refine gl_v rfl (o_assign rfl) ?_
      refine gl_nil ?_
      refine ge_imp (fadd (A := qa X AB (p, ask0 k)) (l := xs.map (qa X AB)) (by repeat (first | exact .head | apply Sel.tail)) (by repeat (first | exact .head | apply Sel.tail))) ?_
      refine ge_round (a45, c45, k + 1, xs ++ [(p, ask0 k)]) ⟨by show k + 1 ≤ n; omega, by show (xs ++ [_]).length = k + 1; simp [hxl], fun q hq => by
        have hq : q < k + 1 := hq
        show ((xs ++ [(p, ask0 k)]).map (fun z : Nat × PO => z.2)).getD q pz = _
        by_cases e : q = k
        · subst e; simp [List.getD_eq_getElem?_getD, hxl]
        · have := hxs q (by omega)
          rw [List.map_append, List.getD_eq_getElem?_getD, List.getElem?_append_left (by simp [hxl]; omega), ← List.getD_eq_getElem?_getD]; exact this⟩ (by show n - (k + 1) < n - k; omega) (Keep.cons rfl (Keep.cons rfl (Keep.cons rfl (Keep.cons rfl (Keep.cons rfl (Keep.nil)))))) ?_
      dsimp only
      simp only [List.map_append, List.map_cons, List.map_nil]
      exact (To.sat (by repeat (first | exact .nil | exact .done .refl | (apply To.cons; · (repeat (first | exact .head | apply Sel.tail))) | exact .done (by repeat (first | exact .refl | apply Drop.skip)))))
    ·
      first | replace hc1 := of_decide_eq_true hc1 | replace hc1 := lt_f hc1 | replace hc1 := le_f hc1 | replace hc1 := dec_f hc1 | replace hc1 := nlt_t hc1 | replace hc1 := nle_t hc1 | replace hc1 := ndec_t hc1 | replace hc1 := ndec_f hc1 | replace hc1 := nn_t hc1 | replace hc1 := nn_f hc1 | skip
      obtain rfl : n = k := by omega
      refine g_exit ?_
      refine ge_then_exit ?_
      refine ge_then_exit ?_
      refine ge_block_exit ?_
      exact fun act wo hsl st => ⟨ax, cx, xs, hxl, hxs, hsl.keep (Keep.cons rfl (Keep.cons rfl (Keep.cons rfl (Keep.cons rfl (Keep.nil))))), st.imp (To.sat (by repeat (first | exact .nil | exact .done .refl | (apply To.cons; · (repeat (first | exact .head | apply Sel.tail))) | exact .done (by repeat (first | exact .refl | apply Drop.skip)))))⟩
  ·
    rintro act wo ⟨a8, c8, xs, hxl, hxs, hsl, st⟩
    refine g_of ?_ hsl st
    clear hsl st act wo
    have hA0 : AInv n (fun _ => 0) a0 (xs.map (·.2)) := ⟨by simp [hxl], .inl ⟨fun _ _ => rfl, rfl, hxs⟩⟩
    refine g_cut (fun act wo => ∃ (L : List Int) (t : Int) (xs : List (Nat × PO)) (w : Nat), xs.length = n ∧ w < n ∧ L = (aS (100 + (w : Int)) 8).1 ∧ (∀ q, q < n → ((xs.map (·.2)).getD q pz).out = if q = w then 7 else 4) ∧ HasSl Try.f3.ntmps [(8, .slice a8 n c8), (6, ptr X.bx 0), (5, I64 n), (1, .slice a vs.length c)] act ∧ St W0 (own (.slice a8 n c8) 29 1 n (xs.map qp) :: fam (xs.map (qa X AB)) :: envA X AB L t :: A :: R) wo) ?_ ?_
    ·
      refine g_seq ?_
      refine g_region ?_
      refine gl_v rfl (o_assign rfl) ?_
      refine gl_nil ?_
      refine ge_then ?_
      refine g_block ?_
      refine g_loop (ι := Nat × List Int × Int × List (Nat × PO) × (Nat → Nat)) (fun x => AInv n x.2.2.2.2 x.2.1 (x.2.2.2.1.map (·.2)) ∧ x.2.2.2.1.length = n ∧ x.1 ≤ vs.length + 20 * n ∧ AVis n vs.length x.1 x.2.2.2.2) (fun x => [(10, I64 x.1), (8, .slice a8 n c8), (6, ptr X.bx 0), (5, I64 n), (1, .slice a vs.length c)]) (fun x => own (.slice a8 n c8) 29 1 n (x.2.2.2.1.map qp) :: fam (x.2.2.2.1.map (qa X AB)) :: envA X AB x.2.1 x.2.2.1 :: A :: R) (fun x => vs.length + 20 * n - x.1) (0, a0, t0, xs, fun _ => 0) (⟨hA0, hxl, Nat.zero_le _, AVis.zero _ _⟩) (Keep.cons rfl (Keep.cons rfl (Keep.cons rfl (Keep.cons rfl (Keep.cons rfl (Keep.nil)))))) (To.sat (by repeat (first | exact .nil | exact .done .refl | (apply To.cons; · (repeat (first | exact .head | apply Sel.tail))) | exact .done (by repeat (first | exact .refl | apply Drop.skip))))) ?_
      rintro ⟨i, L, t, xs, s⟩ ⟨hA, hxl, hi, hV⟩
      have hA : AInv n s L (xs.map (·.2)) := hA
      have hxl : xs.length = n := hxl
      have hi : i ≤ vs.length + 20 * n := hi
      have hV : AVis n vs.length i s := hV
      dsimp only
      refine g_seq ?_
      refine g_seq ?_
      refine g_region ?_
      refine gl_v rfl (o_move rfl) ?_
      refine gl_v rfl (o_move rfl) ?_
      first | refine gl_v rfl (o_len rfl) ?_ | refine gl_v rfl (o_lenL rfl) ?_
      refine gl_v rfl (o_move rfl) ?_
      refine gl_v rfl (o_mulR ((20 * n : Nat) : Int) (by rw [wr_i64 (by omega)]; omega) rfl rfl) ?_
      refine gl_v rfl (o_addR ((vs.length + 20 * n : Nat) : Int) (by rw [wr_i64 (by omega)]; omega) rfl rfl) ?_
      refine gl_v rfl (o_lss rfl rfl) ?_
      refine gl_nil ?_
      refine ge_then ?_
      refine g_cond rfl (fun hc2 => ?_) (fun hc2 => ?_)
      ·
        first | replace hc2 := of_decide_eq_true hc2 | replace hc2 := lt_f hc2 | replace hc2 := le_f hc2 | replace hc2 := dec_f hc2 | replace hc2 := nlt_t hc2 | replace hc2 := nle_t hc2 | replace hc2 := ndec_t hc2 | replace hc2 := ndec_f hc2 | replace hc2 := nn_t hc2 | replace hc2 := nn_f hc2 | skip
        refine g_skip ?_
        refine ge_then ?_
        refine g_seq ?_
        refine g_block ?_
        refine g_seq ?_
        refine g_region ?_
        refine gl_v rfl (o_move rfl) ?_
        refine gl_v rfl (o_move rfl) ?_
        refine gl_v rfl (o_remR ((i % n : Nat) : Int) (tmodn i n) rfl rfl (by omega)) ?_
        refine gl_v rfl (o_assign rfl) ?_
        refine gl_nil ?_
        refine ge_then ?_
        refine g_seq ?_
        refine g_seq ?_
        refine g_region ?_
        refine gl_v rfl (o_move rfl) ?_
        refine gl_v rfl (o_move rfl) ?_
        first | refine gl_v rfl (o_len rfl) ?_ | refine gl_v rfl (o_lenL rfl) ?_
        refine gl_v rfl (o_lss rfl rfl) ?_
        refine gl_nil ?_
        refine ge_then ?_
        refine g_cond rfl (fun hc3 => ?_) (fun hc3 => ?_)
        ·
          first | replace hc3 := of_decide_eq_true hc3 | replace hc3 := lt_f hc3 | replace hc3 := le_f hc3 | replace hc3 := dec_f hc3 | replace hc3 := nlt_t hc3 | replace hc3 := nle_t hc3 | replace hc3 := ndec_t hc3 | replace hc3 := ndec_f hc3 | replace hc3 := nn_t hc3 | replace hc3 := nn_f hc3 | skip
          have hc : i < vs.length := by omega
          have hv0 : 0 ≤ vs.getD i 0 ∧ vs.getD i 0 ≤ 255 := by rw [List.getD_eq_getElem?_getD, List.getElem?_eq_getElem hc]; exact hvs _ (List.getElem_mem hc)
          obtain ⟨pk, hpk⟩ : ∃ pk : Nat, (pk : Int) = vs.getD i 0 := ⟨(vs.getD i 0).toNat, by omega⟩
          refine g_region ?_
          refine gl_v rfl (o_move rfl) ?_
          refine gl_v rfl (o_move rfl) ?_
          refine gl_v rfl (o_idxS rfl rfl (by first | assumption | omega)) ?_
          refine gl_v rfl (o_loadS rfl (map_at (d := 0) (by omega))) ?_
          refine gl_v rfl (o_convR (pk : Int) (by rw [hpk]; exact wr_i64 (by omega)) rfl) ?_
          refine gl_v rfl (o_move rfl) ?_
          refine gl_v rfl (o_remR ((pk % n : Nat) : Int) (tmodn pk n) rfl rfl (by omega)) ?_
          refine gl_v rfl (o_assign rfl) ?_
          refine gl_nil ?_
          generalize hjd : pk % n = j
          have hj : j < n := by rw [← hjd]; exact Nat.mod_lt _ (by omega)
          refine ge_then ?_
          obtain ⟨⟨p, o⟩, hx⟩ : ∃ q, xs[j]? = some q := ⟨_, List.getElem?_eq_getElem (by omega)⟩
          have ho := qsnd_get hx
          have hfx : (xs.map qp)[j * 1]? = some (ptr p 0) := by rw [Nat.mul_one]; exact map_at' hx
          have hin := hA.inn h6
          have hpo := hin.2.2 j hj
          rw [ho] at hpo
          refine g_fo (l := xs.map (qa X AB)) (i := j) (A := postA X AB p o) (by repeat (first | exact .head | apply Sel.tail)) (map_at' (f := qa X AB) hx) ?_
          refine g_region ?_
          refine gl_v rfl (o_move rfl) ?_
          refine gl_v rfl (o_move rfl) ?_
          refine gl_v rfl (o_idxS rfl rfl (by first | assumption | omega)) ?_
          refine gl_v rfl (o_loadS rfl hfx) ?_
          refine gl_v rfl (o_nil rfl) ?_
          first | refine gl_v rfl (o_fldS rfl) ?_ | refine gl_v rfl (o_fld rfl) ?_
          refine gl_c rfl (o_call rfl (pstep_spec X AB p L t o hin.2.1 hpo) (by repeat (first | exact .nil | (apply Part.cons; · (repeat (first | exact .head | apply Sel.tail)))))) ?_
          rintro _ R ⟨_, ⟨rfl, rfl⟩, rfl⟩
          try simp only [List.cons_append, List.nil_append]
          refine gl_nil ?_
          refine ge_block ?_
          refine ge_then ?_
          refine g_region ?_
          refine gl_v rfl (o_move rfl) ?_
          refine gl_v rfl (o_addR ((i + 1 : Nat) : Int) (by rw [wr_i64 (by omega)]; omega) rfl rfl) ?_
          refine gl_v rfl (o_assign rfl) ?_
          refine gl_nil ?_
          refine ge_imp (fs (i := j) (l := xs.map (qa X AB)) (A := qa X AB (p, goPO AB L o)) (by repeat (first | exact .head | apply Sel.tail)) (by repeat (first | exact .head | apply Sel.tail)) (by simp [hxl, hj])) ?_
          rw [qfam_set]
          have hA' : AInv n (up s j) (goPL AB L o) ((xs.set j (p, goPO AB L o)).map (·.2)) := by have h := hA.step hj; rw [ho] at h; rw [qsnd_set]; exact h
          have hV' : AVis n vs.length (i + 1) (up s j) := by exact AVis.early hc
          rw [← qp_set hx (goPO AB L o)]
          refine ge_round (i + 1, goPL AB L o, (if o.over then t else tup t), xs.set j (p, goPO AB L o), up s j) ⟨hA', by show (xs.set _ _).length = n; simp [hxl], by show i + 1 ≤ vs.length + 20 * n; omega, hV'⟩ (by show vs.length + 20 * n - (i + 1) < vs.length + 20 * n - i; omega) (Keep.cons rfl (Keep.cons rfl (Keep.cons rfl (Keep.cons rfl (Keep.cons rfl (Keep.nil)))))) ?_
          dsimp only
          exact (To.sat (by repeat (first | exact .nil | exact .done .refl | (apply To.cons; · (repeat (first | exact .head | apply Sel.tail))) | exact .done (by repeat (first | exact .refl | apply Drop.skip)))))
        ·
          first | replace hc3 := of_decide_eq_true hc3 | replace hc3 := lt_f hc3 | replace hc3 := le_f hc3 | replace hc3 := dec_f hc3 | replace hc3 := nlt_t hc3 | replace hc3 := nle_t hc3 | replace hc3 := ndec_t hc3 | replace hc3 := ndec_f hc3 | replace hc3 := nn_t hc3 | replace hc3 := nn_f hc3 | skip
          have hc : vs.length ≤ i := by omega
          generalize hjd : i % n = j
          have hj : j < n := by rw [← hjd]; exact Nat.mod_lt _ (by omega)
          refine g_skip ?_
          refine ge_then ?_
          obtain ⟨⟨p, o⟩, hx⟩ : ∃ q, xs[j]? = some q := ⟨_, List.getElem?_eq_getElem (by omega)⟩
          have ho := qsnd_get hx
          have hfx : (xs.map qp)[j * 1]? = some (ptr p 0) := by rw [Nat.mul_one]; exact map_at' hx
          have hin := hA.inn h6
          have hpo := hin.2.2 j hj
          rw [ho] at hpo
          refine g_fo (l := xs.map (qa X AB)) (i := j) (A := postA X AB p o) (by repeat (first | exact .head | apply Sel.tail)) (map_at' (f := qa X AB) hx) ?_
          refine g_region ?_
          refine gl_v rfl (o_move rfl) ?_
          refine gl_v rfl (o_move rfl) ?_
          refine gl_v rfl (o_idxS rfl rfl (by first | assumption | omega)) ?_
          refine gl_v rfl (o_loadS rfl hfx) ?_
          refine gl_v rfl (o_nil rfl) ?_
          first | refine gl_v rfl (o_fldS rfl) ?_ | refine gl_v rfl (o_fld rfl) ?_
          refine gl_c rfl (o_call rfl (pstep_spec X AB p L t o hin.2.1 hpo) (by repeat (first | exact .nil | (apply Part.cons; · (repeat (first | exact .head | apply Sel.tail)))))) ?_
          rintro _ R ⟨_, ⟨rfl, rfl⟩, rfl⟩
          try simp only [List.cons_append, List.nil_append]
          refine gl_nil ?_
          refine ge_block ?_
          refine ge_then ?_
          refine g_region ?_
          refine gl_v rfl (o_move rfl) ?_
          refine gl_v rfl (o_addR ((i + 1 : Nat) : Int) (by rw [wr_i64 (by omega)]; omega) rfl rfl) ?_
          refine gl_v rfl (o_assign rfl) ?_
          refine gl_nil ?_
          refine ge_imp (fs (i := j) (l := xs.map (qa X AB)) (A := qa X AB (p, goPO AB L o)) (by repeat (first | exact .head | apply Sel.tail)) (by repeat (first | exact .head | apply Sel.tail)) (by simp [hxl, hj])) ?_
          rw [qfam_set]
          have hA' : AInv n (up s j) (goPL AB L o) ((xs.set j (p, goPO AB L o)).map (·.2)) := by have h := hA.step hj; rw [ho] at h; rw [qsnd_set]; exact h
          have hV' : AVis n vs.length (i + 1) (up s j) := by subst hjd; exact hV.late
          rw [← qp_set hx (goPO AB L o)]
          refine ge_round (i + 1, goPL AB L o, (if o.over then t else tup t), xs.set j (p, goPO AB L o), up s j) ⟨hA', by show (xs.set _ _).length = n; simp [hxl], by show i + 1 ≤ vs.length + 20 * n; omega, hV'⟩ (by show vs.length + 20 * n - (i + 1) < vs.length + 20 * n - i; omega) (Keep.cons rfl (Keep.cons rfl (Keep.cons rfl (Keep.cons rfl (Keep.cons rfl (Keep.nil)))))) ?_
          dsimp only
          exact (To.sat (by repeat (first | exact .nil | exact .done .refl | (apply To.cons; · (repeat (first | exact .head | apply Sel.tail))) | exact .done (by repeat (first | exact .refl | apply Drop.skip)))))
      ·
        first | replace hc2 := of_decide_eq_true hc2 | replace hc2 := lt_f hc2 | replace hc2 := le_f hc2 | replace hc2 := dec_f hc2 | replace hc2 := nlt_t hc2 | replace hc2 := nle_t hc2 | replace hc2 := ndec_t hc2 | replace hc2 := ndec_f hc2 | replace hc2 := nn_t hc2 | replace hc2 := nn_f hc2 | skip
        obtain rfl : i = vs.length + 20 * n := by omega
        obtain ⟨w, hw, hL, hout⟩ := hA.done h1 (fun q hq => hV.full (by omega) hq)
        refine g_exit ?_
        refine ge_then_exit ?_
        refine ge_then_exit ?_
        refine ge_block_exit ?_
        exact fun act wo hsl st => ⟨L, t, xs, w, hxl, hw, hL, hout, hsl.keep (Keep.cons rfl (Keep.cons rfl (Keep.cons rfl (Keep.cons rfl (Keep.nil))))), st.imp (To.sat (by repeat (first | exact .nil | exact .done .refl | (apply To.cons; · (repeat (first | exact .head | apply Sel.tail))) | exact .done (by repeat (first | exact .refl | apply Drop.skip)))))⟩
    ·
      rintro act wo ⟨L, t, xs, w, hxl, hw, hL, hout, hsl, st⟩
      refine g_of ?_ hsl st
      clear hsl st act wo
      subst hL
      have hain := aS_in (100 + (w : Int)) (by omega) 8
      refine g_seq ?_
      refine g_region ?_
      refine gl_v rfl (o_assign rfl) ?_
      refine gl_nil ?_
      refine ge_then ?_
      refine g_seq ?_
      refine g_region ?_
      refine gl_v rfl (o_assign rfl) ?_
      refine gl_nil ?_
      refine ge_then ?_
      refine g_cut (fun act wo => ∃ (t : Int), HasSl Try.f3.ntmps [(12, I64 1), (13, U64 (100 + (w : Int))), (6, ptr X.bx 0)] act ∧ St W0 (envA X AB (aS (100 + (w : Int)) 8).1 t :: A :: R) wo) ?_ ?_
      ·
        refine g_seq ?_
        refine g_region ?_
        refine gl_v rfl (o_assign rfl) ?_
        refine gl_nil ?_
        refine ge_then ?_
        refine g_block ?_
        refine g_loop (ι := Nat) (fun x => x ≤ n) (fun x => [(14, I64 x), (12, I64 (thr w x)), (13, U64 (who w x)), (8, .slice a8 n c8), (6, ptr X.bx 0), (5, I64 n), (1, .slice a vs.length c)]) (fun x => own (.slice a8 n c8) 29 1 n (xs.map qp) :: fam (xs.map (qa X AB)) :: envA X AB (aS (100 + (w : Int)) 8).1 t :: A :: R) (fun x => n - x) 0 (Nat.zero_le _) (Keep.cons rfl (Keep.cons rfl (Keep.cons rfl (Keep.cons rfl (Keep.cons rfl (Keep.cons rfl (Keep.cons rfl (Keep.nil)))))))) (To.sat (by repeat (first | exact .nil | exact .done .refl | (apply To.cons; · (repeat (first | exact .head | apply Sel.tail))) | exact .done (by repeat (first | exact .refl | apply Drop.skip))))) ?_
        intro j hj0
        have hj0 : j ≤ n := hj0
        have hth := thr_in w j
        refine g_seq ?_
        refine g_seq ?_
        refine g_region ?_
        refine gl_v rfl (o_move rfl) ?_
        refine gl_v rfl (o_move rfl) ?_
        refine gl_v rfl (o_lss rfl rfl) ?_
        refine gl_nil ?_
        refine ge_then ?_
        refine g_cond rfl (fun hc4 => ?_) (fun hc4 => ?_)
        ·
          first | replace hc4 := of_decide_eq_true hc4 | replace hc4 := lt_f hc4 | replace hc4 := le_f hc4 | replace hc4 := dec_f hc4 | replace hc4 := nlt_t hc4 | replace hc4 := nle_t hc4 | replace hc4 := ndec_t hc4 | replace hc4 := ndec_f hc4 | replace hc4 := nn_t hc4 | replace hc4 := nn_f hc4 | skip
          have hj : j < n := by omega
          refine g_skip ?_
          refine ge_then ?_
          refine g_seq ?_
          refine g_block ?_
          refine g_seq ?_
          obtain ⟨⟨p, o⟩, hx⟩ : ∃ q, xs[j]? = some q := ⟨_, List.getElem?_eq_getElem (by omega)⟩
          have ho := qsnd_get hx
          have hfx : (xs.map qp)[j * 1]? = some (ptr p 0) := by rw [Nat.mul_one]; exact map_at' hx
          have hoj := hout j hj
          rw [ho] at hoj
          refine g_fo (l := xs.map (qa X AB)) (i := j) (A := postA X AB p o) (by repeat (first | exact .head | apply Sel.tail)) (map_at' (f := qa X AB) hx) ?_
          refine g_region ?_
          refine gl_v rfl (o_move rfl) ?_
          refine gl_v rfl (o_move rfl) ?_
          refine gl_v rfl (o_idxS rfl rfl (by first | assumption | omega)) ?_
          refine gl_v rfl (o_loadS rfl hfx) ?_
          refine gl_v rfl (o_nil rfl) ?_
          first | refine gl_v rfl (o_fldS rfl) ?_ | refine gl_v rfl (o_fld rfl) ?_
          refine gl_c rfl (o_call rfl (pOut_spec X AB p o) (by repeat (first | exact .nil | (apply Part.cons; · (repeat (first | exact .head | apply Sel.tail)))))) ?_
          rintro _ R ⟨_, ⟨rfl, rfl⟩, rfl⟩
          try simp only [List.cons_append, List.nil_append]
          refine gl_v rfl (o_eql rfl rfl) ?_
          refine gl_nil ?_
          refine ge_then ?_
          refine g_cond rfl (fun hc5 => ?_) (fun hc5 => ?_)
          ·
            first | replace hc5 := of_decide_eq_true hc5 | replace hc5 := lt_f hc5 | replace hc5 := le_f hc5 | replace hc5 := dec_f hc5 | replace hc5 := nlt_t hc5 | replace hc5 := nle_t hc5 | replace hc5 := ndec_t hc5 | replace hc5 := ndec_f hc5 | replace hc5 := nn_t hc5 | replace hc5 := nn_f hc5 | skip
            have hjw : j = w := by rw [hc5] at hoj; split at hoj <;> simp_all
            refine g_seq ?_
            refine g_region ?_
            refine gl_v rfl (o_move rfl) ?_
            refine gl_v rfl (o_addR (thr w (j + 1)) (by rw [wr_i64 (by omega)]; exact thr_at hjw) rfl rfl) ?_
            refine gl_v rfl (o_assign rfl) ?_
            refine gl_nil ?_
            refine ge_then ?_
            refine g_region ?_
            refine gl_v rfl (o_move rfl) ?_
            refine gl_v rfl (o_addR (100 + (j : Int)) (wr_i64 (by omega)) rfl rfl) ?_
            refine gl_v rfl (o_convR (who w (j + 1)) (by rw [wr_u64 (by omega)]; exact who_at hjw) rfl) ?_
            refine gl_v rfl (o_assign rfl) ?_
            refine gl_nil ?_
            refine ge_block ?_
            refine ge_then ?_
            refine g_region ?_
            refine gl_v rfl (o_move rfl) ?_
            refine gl_v rfl (o_addR ((j + 1 : Nat) : Int) (by rw [wr_i64 (by omega)]; omega) rfl rfl) ?_
            refine gl_v rfl (o_assign rfl) ?_
            refine gl_nil ?_
            refine ge_imp (fs (i := j) (l := xs.map (qa X AB)) (A := qa X AB (p, o)) (by repeat (first | exact .head | apply Sel.tail)) (by repeat (first | exact .head | apply Sel.tail)) (by simp [hxl, hj])) ?_
            rw [qfam_set]
            rw [qset_same hx]
            refine ge_round (j + 1) (show j + 1 ≤ n by omega) (by omega) (Keep.cons rfl (Keep.cons rfl (Keep.cons rfl (Keep.cons rfl (Keep.cons rfl (Keep.cons rfl (Keep.cons rfl (Keep.nil)))))))) (To.sat (by repeat (first | exact .nil | exact .done .refl | (apply To.cons; · (repeat (first | exact .head | apply Sel.tail))) | exact .done (by repeat (first | exact .refl | apply Drop.skip)))))
          ·
            first | replace hc5 := of_decide_eq_true hc5 | replace hc5 := lt_f hc5 | replace hc5 := le_f hc5 | replace hc5 := dec_f hc5 | replace hc5 := nlt_t hc5 | replace hc5 := nle_t hc5 | replace hc5 := ndec_t hc5 | replace hc5 := ndec_f hc5 | replace hc5 := nn_t hc5 | replace hc5 := nn_f hc5 | skip
            have hjw : j ≠ w := fun e => by rw [if_pos e] at hoj; exact hc5 hoj
            rw [if_neg hjw] at hoj
            rw [← thr_ne hjw, ← who_ne hjw]
            refine g_seq ?_
            refine g_region ?_
            refine gl_v rfl (o_move rfl) ?_
            refine gl_v rfl (o_move rfl) ?_
            refine gl_v rfl (o_idxS rfl rfl (by first | assumption | omega)) ?_
            refine gl_v rfl (o_loadS rfl hfx) ?_
            refine gl_v rfl (o_nil rfl) ?_
            first | refine gl_v rfl (o_fldS rfl) ?_ | refine gl_v rfl (o_fld rfl) ?_
            refine gl_c rfl (o_call rfl (pOut_spec X AB p o) (by repeat (first | exact .nil | (apply Part.cons; · (repeat (first | exact .head | apply Sel.tail)))))) ?_
            rintro _ R ⟨_, ⟨rfl, rfl⟩, rfl⟩
            try simp only [List.cons_append, List.nil_append]
            refine gl_v rfl (o_neq rfl rfl) ?_
            refine gl_nil ?_
            refine ge_then ?_
            refine g_cond_false (by show some (Value.bool (!decide (o.out = 4))) = _; rw [hoj]; rfl) ?_
            refine g_skip ?_
            refine ge_block ?_
            refine ge_then ?_
            refine g_region ?_
            refine gl_v rfl (o_move rfl) ?_
            refine gl_v rfl (o_addR ((j + 1 : Nat) : Int) (by rw [wr_i64 (by omega)]; omega) rfl rfl) ?_
            refine gl_v rfl (o_assign rfl) ?_
            refine gl_nil ?_
            refine ge_imp (fs (i := j) (l := xs.map (qa X AB)) (A := qa X AB (p, o)) (by repeat (first | exact .head | apply Sel.tail)) (by repeat (first | exact .head | apply Sel.tail)) (by simp [hxl, hj])) ?_
            rw [qfam_set]
            rw [qset_same hx]
            refine ge_round (j + 1) (show j + 1 ≤ n by omega) (by omega) (Keep.cons rfl (Keep.cons rfl (Keep.cons rfl (Keep.cons rfl (Keep.cons rfl (Keep.cons rfl (Keep.cons rfl (Keep.nil)))))))) (To.sat (by repeat (first | exact .nil | exact .done .refl | (apply To.cons; · (repeat (first | exact .head | apply Sel.tail))) | exact .done (by repeat (first | exact .refl | apply Drop.skip)))))
        ·
          first | replace hc4 := of_decide_eq_true hc4 | replace hc4 := lt_f hc4 | replace hc4 := le_f hc4 | replace hc4 := dec_f hc4 | replace hc4 := nlt_t hc4 | replace hc4 := nle_t hc4 | replace hc4 := ndec_t hc4 | replace hc4 := ndec_f hc4 | replace hc4 := nn_t hc4 | replace hc4 := nn_f hc4 | skip
          obtain rfl : n = j := by omega
          refine g_exit ?_
          refine ge_then_exit ?_
          refine ge_then_exit ?_
          refine ge_block_exit ?_
          exact fun act wo hsl st => ⟨t, hsl.keep (Keep.cons (by rw [← thr_all hw]; rfl) (Keep.cons (by rw [← who_all hw]; rfl) (Keep.cons rfl Keep.nil))), st.imp (To.sat (by repeat (first | exact .nil | exact .done .refl | (apply To.cons; · (repeat (first | exact .head | apply Sel.tail))) | exact .done (by repeat (first | exact .refl | apply Drop.skip)))))⟩
      ·
        rintro act wo ⟨t, hsl, st⟩
        refine g_of ?_ hsl st
        clear hsl st act wo
        refine g_seq ?_
        refine g_region ?_
        refine gl_v rfl (o_move rfl) ?_
        refine gl_c rfl (o_call rfl (fns_env (bNote_spec X AB)) (by repeat (first | exact .nil | (apply Part.cons; · (repeat (first | exact .head | apply Sel.tail)))))) ?_
        rintro _ R ⟨_, ⟨p1, rfl, rfl⟩, rfl⟩
        try simp only [List.cons_append, List.nil_append]
        refine gl_c rfl (o_call rfl (pdone_spec X AB p1 ((aS (100 + (w : Int)) 8).1) _ ⟨.of true (ini 5 0), 0, 0⟩ (hain.2.2) (hain.1) (POof (by decide)) 5 (a9 (100 + (w : Int))) _ (a_note1 _)) (by repeat (first | exact .nil | (apply Part.cons; · (repeat (first | exact .head | apply Sel.tail)))))) ?_
        rintro _ R ⟨_, ⟨t', rfl, rfl⟩, rfl⟩
        try simp only [List.cons_append, List.nil_append]
        refine gl_v rfl (o_move rfl) ?_
        refine gl_v rfl (o_extract rfl rfl) ?_
        refine gl_v rfl (o_extract rfl rfl) ?_
        refine gl_v rfl (o_extract rfl rfl) ?_
        refine gl_v rfl (o_assign rfl) ?_
        refine gl_v rfl (o_assign rfl) ?_
        refine gl_v rfl (o_assign rfl) ?_
        refine gl_nil ?_
        refine ge_then ?_
        refine g_seq ?_
        refine g_region ?_
        refine gl_v rfl (o_move rfl) ?_
        refine gl_c rfl (o_call rfl (fns_env (bNote_spec X AB)) (by repeat (first | exact .nil | (apply Part.cons; · (repeat (first | exact .head | apply Sel.tail)))))) ?_
        rintro _ R ⟨_, ⟨p2, rfl, rfl⟩, rfl⟩
        try simp only [List.cons_append, List.nil_append]
        refine gl_c rfl (o_call rfl (pdone_spec X AB p2 (a9 (100 + (w : Int))) _ ⟨.of true (ini 5 0), 0, 0⟩ ((a9_in _ (by omega)).2) ((a9_in _ (by omega)).1) (POof (by decide)) 2 (a9 (100 + (w : Int))) _ (a_note2 _)) (by repeat (first | exact .nil | (apply Part.cons; · (repeat (first | exact .head | apply Sel.tail)))))) ?_
        rintro _ R ⟨_, ⟨t', rfl, rfl⟩, rfl⟩
        try simp only [List.cons_append, List.nil_append]
        refine gl_v rfl (o_move rfl) ?_
        refine gl_v rfl (o_extract rfl rfl) ?_
        refine gl_v rfl (o_extract rfl rfl) ?_
        refine gl_v rfl (o_extract rfl rfl) ?_
        refine gl_v rfl (o_assign rfl) ?_
        refine gl_v rfl (o_assign rfl) ?_
        refine gl_v rfl (o_assign rfl) ?_
        refine gl_nil ?_
        refine ge_then ?_
        refine g_seq ?_
        refine g_region ?_
        refine gl_v rfl (o_move rfl) ?_
        refine gl_v rfl (o_eql rfl rfl) ?_
        refine gl_v rfl (o_move rfl) ?_
        refine gl_gT rfl rfl (by simp) ?_
        refine gl_v rfl (o_move rfl) ?_
        refine gl_gT rfl rfl (by simp) ?_
        refine gl_v rfl (o_eql rfl rfl) ?_
        refine gl_v rfl (o_pickT (by simp) rfl rfl) ?_
        refine gl_v rfl (o_move rfl) ?_
        refine gl_gT rfl rfl (by simp) ?_
        refine gl_v rfl (o_move rfl) ?_
        refine gl_gT rfl rfl (by simp) ?_
        refine gl_v rfl (o_move rfl) ?_
        refine gl_gT rfl rfl (by simp) ?_
        refine gl_v rfl (o_eql rfl rfl) ?_
        refine gl_v rfl (o_pickT (by simp) rfl rfl) ?_
        refine gl_v rfl (o_move rfl) ?_
        refine gl_gT rfl rfl (by simp) ?_
        refine gl_v rfl (o_move rfl) ?_
        refine gl_gT rfl rfl (by simp) ?_
        refine gl_v rfl (o_eql rfl rfl) ?_
        refine gl_v rfl (o_pickT (by simp) rfl rfl) ?_
        refine gl_v rfl (o_assign rfl) ?_
        refine gl_nil ?_
        refine ge_then ?_
        refine g_ret ?_
        refine ret1 (.inl rfl) rfl rfl _ (⟨by simp, rfl⟩) (To.sat (by repeat (first | exact .nil | exact .done .refl | (apply To.cons; · (repeat (first | exact .head | apply Sel.tail))) | exact .done (by repeat (first | exact .refl | apply Drop.skip)))))

end Go.Proofs.Ytkpgcdhepfgfaaa.L
