/-
  RingFree. Own work, printed in part by a program of its own.
-/
import Derived.Test.YtnkcgfllehohbaaRingI
import Derived.Test.YtnkcgfllehohbaaRingE
namespace Go.Proofs.Ytnkcgfllehohbaa.L
open Go.L Go.L.Ring
abbrev fp (q : Nat × RO) : Value := ptr q.1 0
abbrev fa (r : Nat) (q : Nat × RO) : Assn := opA q.1 r q.2
theorem tmod8e (s : Nat) : (s : Int).tmod 8 = ((s % 8 : Nat) : Int) := by rw [Int.tmod_eq_emod_of_nonneg (by omega)]; omega
theorem fi_RI {n : Nat} {L : List Int} {os : List RO} {ss : List Int} (F : FI n L os ss) : RI 0 8 L := ⟨by omega, by omega, by rw [F.len]; omega, by rw [F.len]; omega⟩
theorem snd_get {xs : List (Nat × RO)} {j p : Nat} {o : RO} (h : xs[j]? = some (p, o)) : (xs.map (·.2)).getD j d0 = o := by simp [List.getD_eq_getElem?_getD, h]
theorem set_same {xs : List (Nat × RO)} {j : Nat} {q : Nat × RO} (h : xs[j]? = some q) : xs.set j q = xs := by
  obtain ⟨hj, e⟩ := List.getElem?_eq_some_iff.1 h
  rw [← e]; exact List.set_getElem_self hj
theorem fam_set {α : Type} (f : α → Assn) (xs : List α) (j : Nat) (q : α) : (xs.map f).set j (f q) = (xs.set j q).map f := (List.map_set ..).symm
theorem snd_set (xs : List (Nat × RO)) (j : Nat) (p : Nat) (o : RO) : (xs.set j (p, o)).map (·.2) = (xs.map (·.2)).set j o := List.map_set ..
theorem fp_set {xs : List (Nat × RO)} {j p : Nat} {o : RO} (h : xs[j]? = some (p, o)) (o' : RO) : (xs.set j (p, o')).map fp = xs.map fp := by
  rw [List.map_set]
  have : xs.map fp = (xs.map fp).set j (fp (p, o)) := by rw [← List.map_set, set_same h]
  exact this.symm

theorem free_spec (s : Nat) (hs : s ≤ 255) (a : Option Addr) (c : Nat) (vs : List Int) (hvs : ∀ x ∈ vs, 0 ≤ x ∧ x ≤ 255) (hm : vs.length ≤ 140737488351232) (A : Assn) [RdA (.slice a vs.length c) A vs.length (vs.map (fun x => Value.int .u8 x))] : FnS Try.prog 7 [.int .u8 s, .slice a vs.length c] [A]
      (fun u Bs => u = .bool true ∧ Bs = [A]) := by
  refine fn_body Try.func7 rfl rfl rfl ?_
  intro W0 R
  simp only [List.zipIdx_cons, List.zipIdx_nil, List.map_cons, List.map_nil, Nat.zero_add, Nat.reduceAdd, List.cons_append, List.nil_append]
  obtain ⟨n, hn⟩ : ∃ n, n = 1 + s % 8 := ⟨_, rfl⟩
  have h1 : 1 ≤ n := by omega
  have h8 : n ≤ 8 := by omega
  refine g_seq ?_
  refine g_region ?_
  refine gl_v rfl (o_assign rfl) ?_
  refine gl_nil ?_
  refine ge_then ?_
  refine g_seq ?_
  refine g_seq ?_
  refine g_region ?_
  refine gl_c rfl (o_call rfl (alive_spec) (by repeat (first | exact .nil | (apply Part.cons; · (first | exact .head | exact .tail .head | exact .tail (.tail .head) | exact .tail (.tail (.tail .head)) | exact .tail (.tail (.tail (.tail .head))) | exact .tail (.tail (.tail (.tail (.tail .head)))) | exact .tail (.tail (.tail (.tail (.tail (.tail .head))))) | exact .tail (.tail (.tail (.tail (.tail (.tail (.tail .head))))))))))) ?_
  rintro _ R ⟨_, ⟨rfl, rfl⟩, rfl⟩
  try simp only [List.cons_append, List.nil_append]
  refine gl_v rfl (o_not rfl) ?_
  refine gl_nil ?_
  refine ge_then ?_
  refine g_cond_false (rfl) ?_
  refine g_skip ?_
  refine ge_then ?_
  refine g_seq ?_
  refine g_region ?_
  refine gl_v rfl (o_move rfl) ?_
  refine gl_v rfl (o_convR (s : Int) (wr_i64 (by omega)) rfl) ?_
  refine gl_v rfl (o_remR _ (tmod8e s) rfl rfl (by decide)) ?_
  refine gl_v rfl (o_addR (n : Int) (by rw [wr_i64 (by omega)]; omega) rfl rfl) ?_
  refine gl_v rfl (o_assign rfl) ?_
  refine gl_nil ?_
  refine ge_then ?_
  refine g_seq ?_
  refine g_region ?_
  refine gl_c rfl (o_call rfl (made_spec 8 (by omega) (by omega)) (by repeat (first | exact .nil | (apply Part.cons; · (first | exact .head | exact .tail .head | exact .tail (.tail .head) | exact .tail (.tail (.tail .head)) | exact .tail (.tail (.tail (.tail .head))) | exact .tail (.tail (.tail (.tail (.tail .head)))) | exact .tail (.tail (.tail (.tail (.tail (.tail .head))))) | exact .tail (.tail (.tail (.tail (.tail (.tail (.tail .head))))))))))) ?_
  rintro _ R ⟨_, ⟨r, m, t0, rfl, rfl⟩, rfl⟩
  try simp only [List.cons_append, List.nil_append]
  refine gl_v rfl (o_assign rfl) ?_
  refine gl_nil ?_
  refine ge_then ?_
  refine g_seq ?_
  refine g_seq ?_
  refine g_region ?_
  refine gl_v rfl (o_move rfl) ?_
  first | refine gl_v rfl (o_eqlPn rfl rfl) ?_ | refine gl_v rfl (o_eqlnn rfl rfl) ?_
  refine gl_nil ?_
  refine ge_then ?_
  refine g_cond_false (rfl) ?_
  refine g_skip ?_
  refine ge_then ?_
  refine g_seq ?_
  refine g_region ?_
  refine gl_n rfl (o_buildS0) ?_
  rintro _ _ ⟨b24, rfl, rfl⟩
  refine gl_v rfl (o_assign rfl) ?_
  refine gl_nil ?_
  refine ge_then ?_
  refine g_seq ?_
  refine g_region ?_
  refine gl_v rfl (o_move rfl) ?_
  refine gl_n rfl (o_makeS rfl rfl (by unfold maxLen; omega) (by omega)) ?_
  rintro _ _ ⟨a26, c26, rfl, rfl⟩
  rw [rep_map I64]
  refine gl_imp fam_nil ?_
  refine gl_v rfl (o_assign rfl) ?_
  refine gl_nil ?_
  refine ge_then ?_
  refine g_cut (fun act wo => ∃ (a7 : Option Addr) (c7 : Nat) (xs : List (Nat × RO)), xs.length = n ∧ (∀ p, p < n → (xs.map (·.2)).getD p d0 = ⟨0, 0, (p : Int), 0, 0⟩) ∧ HasSl Try.f7.ntmps [(7, .slice a7 n c7), (8, .slice a26 n c26), (5, I64 n), (1, .slice a vs.length c)] act ∧ St W0 (own (.slice a7 n c7) 50 1 n (xs.map fp) :: fam (xs.map (fa r)) :: own (.slice a26 n c26) 3 1 n ((List.replicate n 0).map I64) :: memA m (List.replicate 18 0) t0 :: ringA r m 0 8 :: A :: R) wo) ?_ ?_
  ·
    refine g_seq ?_
    refine g_region ?_
    refine gl_v rfl (o_assign rfl) ?_
    refine gl_nil ?_
    refine ge_then ?_
    refine g_block ?_
    refine g_loop (ι := Option Addr × Nat × Nat × List (Nat × RO)) (fun x => x.2.2.1 ≤ n ∧ x.2.2.2.length = x.2.2.1 ∧ ∀ p, p < x.2.2.1 → (x.2.2.2.map (·.2)).getD p d0 = ⟨0, 0, (p : Int), 0, 0⟩) (fun x => [(9, I64 x.2.2.1), (7, .slice x.1 x.2.2.1 x.2.1), (8, .slice a26 n c26), (6, ptr r 0), (5, I64 n), (1, .slice a vs.length c)]) (fun x => own (.slice x.1 x.2.2.1 x.2.1) 50 1 x.2.2.1 (x.2.2.2.map fp) :: fam (x.2.2.2.map (fa r)) :: own (.slice a26 n c26) 3 1 n ((List.replicate n 0).map I64) :: memA m (List.replicate 18 0) t0 :: ringA r m 0 8 :: A :: R) (fun x => n - x.2.2.1) (some ⟨b24, 0, none⟩, 0, 0, []) (⟨Nat.zero_le _, rfl, fun p h => absurd h (Nat.not_lt_zero _)⟩) (Keep.cons rfl (Keep.cons rfl (Keep.cons rfl (Keep.cons rfl (Keep.cons rfl (Keep.cons rfl (Keep.nil))))))) (To.sat (by repeat (first | exact .nil | exact .done .refl | (apply To.cons; · (first | exact .head | exact .tail .head | exact .tail (.tail .head) | exact .tail (.tail (.tail .head)) | exact .tail (.tail (.tail (.tail .head))) | exact .tail (.tail (.tail (.tail (.tail .head)))) | exact .tail (.tail (.tail (.tail (.tail (.tail .head))))) | exact .tail (.tail (.tail (.tail (.tail (.tail (.tail .head)))))))) | exact .done (by repeat (first | exact .refl | apply Drop.skip))))) ?_
    rintro ⟨ax, cx, k, xs⟩ ⟨hk, hxl, hxs⟩
    have hk : k ≤ n := hk
    have hxl : xs.length = k := hxl
    have hxs : ∀ p, p < k → (xs.map (·.2)).getD p d0 = ⟨0, 0, (p : Int), 0, 0⟩ := hxs
    dsimp only
    refine g_seq ?_
    refine g_seq ?_
    refine g_region ?_
    refine gl_v rfl (o_move rfl) ?_
    refine gl_v rfl (o_move rfl) ?_
    refine gl_v rfl (o_lss rfl rfl) ?_
    refine gl_nil ?_
    refine ge_then ?_
    refine g_cond rfl (fun hc1 => ?_) (fun hc1 => ?_)
    ·
      first | replace hc1 := of_decide_eq_true hc1 | replace hc1 := lt_f hc1 | replace hc1 := le_f hc1 | replace hc1 := dec_f hc1 | replace hc1 := nlt_t hc1 | replace hc1 := nle_t hc1 | replace hc1 := ndec_t hc1 | replace hc1 := ndec_f hc1 | replace hc1 := nn_t hc1 | replace hc1 := nn_f hc1 | skip
      refine g_skip ?_
      refine ge_then ?_
      refine g_seq ?_
      refine g_block ?_
      refine g_region ?_
      refine gl_v rfl (o_move rfl) ?_
      refine gl_v rfl (o_move rfl) ?_
      refine gl_v rfl (o_move rfl) ?_
      refine gl_v rfl (o_convR (k : Int) (wr_u64 (by omega)) rfl) ?_
      refine gl_c rfl (o_call rfl (Put_spec r k) (by repeat (first | exact .nil | (apply Part.cons; · (first | exact .head | exact .tail .head | exact .tail (.tail .head) | exact .tail (.tail (.tail .head)) | exact .tail (.tail (.tail (.tail .head))) | exact .tail (.tail (.tail (.tail (.tail .head)))) | exact .tail (.tail (.tail (.tail (.tail (.tail .head))))) | exact .tail (.tail (.tail (.tail (.tail (.tail (.tail .head))))))))))) ?_
      rintro _ R ⟨_, ⟨p, rfl, rfl⟩, rfl⟩
      try simp only [List.cons_append, List.nil_append]
      first | refine gl_n rfl (o_buildS1 rfl rfl rfl) ?_ | refine gl_n rfl (o_buildS1A rfl rfl rfl rfl) ?_ | refine gl_n rfl (o_buildS rfl rfl rfl rfl) ?_
      rintro _ _ ⟨b37, rfl, rfl⟩
      refine gl_n rfl (o_append rfl rfl (by repeat (first | exact .nil | (apply Part.cons; · (first | exact .head | exact .tail .head | exact .tail (.tail .head) | exact .tail (.tail (.tail .head)) | exact .tail (.tail (.tail (.tail .head))) | exact .tail (.tail (.tail (.tail (.tail .head)))) | exact .tail (.tail (.tail (.tail (.tail (.tail .head))))) | exact .tail (.tail (.tail (.tail (.tail (.tail (.tail .head)))))))))) rfl rfl rfl (by omega) (by unfold maxLen; omega)) ?_
      rintro _ _ ⟨a38, c38, rfl, rfl⟩
      refine gl_v rfl (o_assign rfl) ?_
      refine gl_nil ?_
      refine ge_block ?_
      refine ge_then ?_
      refine g_region ?_
      refine gl_v rfl (o_move rfl) ?_
      refine gl_v rfl (o_addR _ (by first | exact wr_i64 (by omega) | rfl) rfl rfl) ?_
      refine gl_v rfl (o_assign rfl) ?_
      refine gl_nil ?_
      refine ge_imp (fadd (A := fa r (p, ⟨0, 0, (k : Int), 0, 0⟩)) (l := xs.map (fa r)) (by first | exact .head | exact .tail .head | exact .tail (.tail .head) | exact .tail (.tail (.tail .head)) | exact .tail (.tail (.tail (.tail .head))) | exact .tail (.tail (.tail (.tail (.tail .head)))) | exact .tail (.tail (.tail (.tail (.tail (.tail .head))))) | exact .tail (.tail (.tail (.tail (.tail (.tail (.tail .head))))))) (by first | exact .head | exact .tail .head | exact .tail (.tail .head) | exact .tail (.tail (.tail .head)) | exact .tail (.tail (.tail (.tail .head))) | exact .tail (.tail (.tail (.tail (.tail .head)))) | exact .tail (.tail (.tail (.tail (.tail (.tail .head))))) | exact .tail (.tail (.tail (.tail (.tail (.tail (.tail .head)))))))) ?_
      refine ge_round (a38, c38, k + 1, xs ++ [(p, ⟨0, 0, (k : Int), 0, 0⟩)]) ⟨by show k + 1 ≤ n; omega, by show (xs ++ [_]).length = k + 1; simp [hxl], fun q hq => by
        have hq : q < k + 1 := hq
        show ((xs ++ [(p, (⟨0, 0, (k : Int), 0, 0⟩ : RO))]).map (fun z : Nat × RO => z.2)).getD q d0 = _
        by_cases e : q = k
        · subst e; simp [List.getD_eq_getElem?_getD, hxl]
        · have := hxs q (by omega)
          rw [List.map_append, List.getD_eq_getElem?_getD, List.getElem?_append_left (by simp [hxl]; omega), ← List.getD_eq_getElem?_getD]; exact this⟩ (by show n - (k + 1) < n - k; omega) (Keep.cons rfl (Keep.cons rfl (Keep.cons rfl (Keep.cons rfl (Keep.cons rfl (Keep.cons rfl (Keep.nil))))))) ?_
      dsimp only
      simp only [List.map_append, List.map_cons, List.map_nil]
      exact (To.sat (by repeat (first | exact .nil | exact .done .refl | (apply To.cons; · (first | exact .head | exact .tail .head | exact .tail (.tail .head) | exact .tail (.tail (.tail .head)) | exact .tail (.tail (.tail (.tail .head))) | exact .tail (.tail (.tail (.tail (.tail .head)))) | exact .tail (.tail (.tail (.tail (.tail (.tail .head))))) | exact .tail (.tail (.tail (.tail (.tail (.tail (.tail .head)))))))) | exact .done (by repeat (first | exact .refl | apply Drop.skip)))))
    ·
      first | replace hc1 := of_decide_eq_true hc1 | replace hc1 := lt_f hc1 | replace hc1 := le_f hc1 | replace hc1 := dec_f hc1 | replace hc1 := nlt_t hc1 | replace hc1 := nle_t hc1 | replace hc1 := ndec_t hc1 | replace hc1 := ndec_f hc1 | replace hc1 := nn_t hc1 | replace hc1 := nn_f hc1 | skip
      obtain rfl : n = k := by omega
      refine g_exit ?_
      refine ge_then_exit ?_
      refine ge_then_exit ?_
      refine ge_block_exit ?_
      exact fun act wo hsl st => ⟨ax, cx, xs, hxl, hxs, hsl.keep (Keep.cons rfl (Keep.cons rfl (Keep.cons rfl (Keep.cons rfl (Keep.nil))))), st.imp (To.sat (by repeat (first | exact .nil | exact .done .refl | (apply To.cons; · (first | exact .head | exact .tail .head | exact .tail (.tail .head) | exact .tail (.tail (.tail .head)) | exact .tail (.tail (.tail (.tail .head))) | exact .tail (.tail (.tail (.tail (.tail .head)))) | exact .tail (.tail (.tail (.tail (.tail (.tail .head))))) | exact .tail (.tail (.tail (.tail (.tail (.tail (.tail .head)))))))) | exact .done (by repeat (first | exact .refl | apply Drop.skip)))))⟩
  ·
    rintro act wo ⟨a7, c7, xs, hxl, hxs, hsl, st⟩
    refine g_of ?_ hsl st
    clear hsl st act wo
    have hF0 := FI.start n h8 (xs.map (·.2)) (by simpa using hxl) (fun p hp => ⟨p, hxs p hp, by omega, by omega⟩)
    refine g_cut (fun act wo => ∃ (L : List Int) (t : Int) (xs : List (Nat × RO)) (ss : List Int), FI n L (xs.map (·.2)) ss ∧ xs.length = n ∧ (∀ p, p < n → ((xs.map (·.2)).getD p d0).over = true) ∧ HasSl Try.f7.ntmps [(7, .slice a7 n c7), (8, .slice a26 n c26), (5, I64 n), (1, .slice a vs.length c)] act ∧ St W0 (own (.slice a7 n c7) 50 1 n (xs.map fp) :: fam (xs.map (fa r)) :: own (.slice a26 n c26) 3 1 n (ss.map I64) :: memA m L t :: ringA r m 0 8 :: A :: R) wo) ?_ ?_
    ·
      refine g_seq ?_
      refine g_region ?_
      refine gl_v rfl (o_assign rfl) ?_
      refine gl_nil ?_
      refine ge_then ?_
      refine g_block ?_
      refine g_loop (ι := Nat × List Int × Int × List (Nat × RO) × List Int) (fun x => FI n x.2.1 (x.2.2.2.1.map (·.2)) x.2.2.2.2 ∧ x.2.2.2.1.length = n ∧ x.1 ≤ vs.length + 40 * n ∧ Vis n vs.length x.1 (x.2.2.2.1.map (·.2)) x.2.2.2.2) (fun x => [(10, I64 x.1), (7, .slice a7 n c7), (8, .slice a26 n c26), (5, I64 n), (1, .slice a vs.length c)]) (fun x => own (.slice a7 n c7) 50 1 n (x.2.2.2.1.map fp) :: fam (x.2.2.2.1.map (fa r)) :: own (.slice a26 n c26) 3 1 n (x.2.2.2.2.map I64) :: memA m x.2.1 x.2.2.1 :: ringA r m 0 8 :: A :: R) (fun x => vs.length + 40 * n - x.1) (0, _, t0, xs, List.replicate n 0) (⟨hF0, hxl, Nat.zero_le _, Vis.zero _ _ hF0⟩) (Keep.cons rfl (Keep.cons rfl (Keep.cons rfl (Keep.cons rfl (Keep.cons rfl (Keep.nil)))))) (To.sat (by repeat (first | exact .nil | exact .done .refl | (apply To.cons; · (first | exact .head | exact .tail .head | exact .tail (.tail .head) | exact .tail (.tail (.tail .head)) | exact .tail (.tail (.tail (.tail .head))) | exact .tail (.tail (.tail (.tail (.tail .head)))) | exact .tail (.tail (.tail (.tail (.tail (.tail .head))))) | exact .tail (.tail (.tail (.tail (.tail (.tail (.tail .head)))))))) | exact .done (by repeat (first | exact .refl | apply Drop.skip))))) ?_
      rintro ⟨i, L, t, xs, ss⟩ ⟨hF, hxl, hi, hV⟩
      have hF : FI n L (xs.map (·.2)) ss := hF
      have hxl : xs.length = n := hxl
      have hi : i ≤ vs.length + 40 * n := hi
      have hV : Vis n vs.length i (xs.map (·.2)) ss := hV
      dsimp only
      refine g_seq ?_
      refine g_seq ?_
      refine g_region ?_
      refine gl_v rfl (o_move rfl) ?_
      refine gl_v rfl (o_move rfl) ?_
      refine gl_v rfl (o_len rfl) ?_
      refine gl_v rfl (o_move rfl) ?_
      refine gl_v rfl (o_mulR _ (by first | exact wr_i64 (by omega) | rfl) rfl rfl) ?_
      refine gl_v rfl (o_addR ((vs.length + 40 * n : Nat) : Int) (by rw [wr_i64 (by omega)]; omega) rfl rfl) ?_
      refine gl_v rfl (o_lss rfl rfl) ?_
      refine gl_nil ?_
      refine ge_then ?_
      refine g_cond rfl (fun hc2 => ?_) (fun hc2 => ?_)
      ·
        first | replace hc2 := of_decide_eq_true hc2 | replace hc2 := lt_f hc2 | replace hc2 := le_f hc2 | replace hc2 := dec_f hc2 | replace hc2 := nlt_t hc2 | replace hc2 := nle_t hc2 | replace hc2 := ndec_t hc2 | replace hc2 := ndec_f hc2 | replace hc2 := nn_t hc2 | replace hc2 := nn_f hc2 | skip
        refine g_skip ?_
        refine ge_then ?_
        refine g_seq ?_
        refine g_block ?_
        refine g_seq ?_
        refine g_region ?_
        refine gl_v rfl (o_move rfl) ?_
        refine gl_v rfl (o_move rfl) ?_
        refine gl_v rfl (o_remR ((i % n : Nat) : Int) (tmodn i n) rfl rfl (by omega)) ?_
        refine gl_v rfl (o_assign rfl) ?_
        refine gl_nil ?_
        refine ge_then ?_
        refine g_seq ?_
        refine g_seq ?_
        refine g_region ?_
        refine gl_v rfl (o_move rfl) ?_
        refine gl_v rfl (o_move rfl) ?_
        refine gl_v rfl (o_len rfl) ?_
        refine gl_v rfl (o_lss rfl rfl) ?_
        refine gl_nil ?_
        refine ge_then ?_
        refine g_cond rfl (fun hc3 => ?_) (fun hc3 => ?_)
        ·
          first | replace hc3 := of_decide_eq_true hc3 | replace hc3 := lt_f hc3 | replace hc3 := le_f hc3 | replace hc3 := dec_f hc3 | replace hc3 := nlt_t hc3 | replace hc3 := nle_t hc3 | replace hc3 := ndec_t hc3 | replace hc3 := ndec_f hc3 | replace hc3 := nn_t hc3 | replace hc3 := nn_f hc3 | skip
          have hc : i < vs.length := by omega
          have hv0 : 0 ≤ vs.getD i 0 ∧ vs.getD i 0 ≤ 255 := by rw [List.getD_eq_getElem?_getD, List.getElem?_eq_getElem hc]; exact hvs _ (List.getElem_mem hc)
          obtain ⟨pk, hpk⟩ : ∃ pk : Nat, (pk : Int) = vs.getD i 0 := ⟨(vs.getD i 0).toNat, by omega⟩
          refine g_region ?_
          refine gl_v rfl (o_move rfl) ?_
          refine gl_v rfl (o_move rfl) ?_
          refine gl_v rfl (o_idxS rfl rfl (by first | assumption | omega)) ?_
          refine gl_v rfl (o_loadS rfl (map_at (d := 0) (by omega))) ?_
          refine gl_v rfl (o_convR (pk : Int) (by rw [hpk]; exact wr_i64 (by omega)) rfl) ?_
          refine gl_v rfl (o_move rfl) ?_
          refine gl_v rfl (o_remR ((pk % n : Nat) : Int) (tmodn pk n) rfl rfl (by omega)) ?_
          refine gl_v rfl (o_assign rfl) ?_
          refine gl_nil ?_
          generalize hjd : pk % n = j
          have hj : j < n := by rw [← hjd]; exact Nat.mod_lt _ (by omega)
          refine ge_then ?_
          refine g_seq ?_
          obtain ⟨⟨p, o⟩, hx⟩ : ∃ q, xs[j]? = some q := ⟨_, List.getElem?_eq_getElem (by omega)⟩
          have ho := snd_get hx
          have hls := hF.ls
          have hoi := hF.oi j hj
          rw [ho] at hoi
          have hfx : (xs.map fp)[j * 1]? = some (ptr p 0) := by rw [Nat.mul_one]; exact map_at' hx
          refine g_fo (by first | exact .head | exact .tail .head | exact .tail (.tail .head) | exact .tail (.tail (.tail .head)) | exact .tail (.tail (.tail (.tail .head))) | exact .tail (.tail (.tail (.tail (.tail .head)))) | exact .tail (.tail (.tail (.tail (.tail (.tail .head))))) | exact .tail (.tail (.tail (.tail (.tail (.tail (.tail .head))))))) (map_at' hx) ?_
          refine g_region ?_
          refine gl_v rfl (o_move rfl) ?_
          refine gl_v rfl (o_move rfl) ?_
          refine gl_v rfl (o_idxS rfl rfl (by first | assumption | omega)) ?_
          refine gl_v rfl (o_loadS rfl hfx) ?_
          refine gl_c rfl (o_call rfl (Over_spec p r o) (by repeat (first | exact .nil | (apply Part.cons; · (first | exact .head | exact .tail .head | exact .tail (.tail .head) | exact .tail (.tail (.tail .head)) | exact .tail (.tail (.tail (.tail .head))) | exact .tail (.tail (.tail (.tail (.tail .head)))) | exact .tail (.tail (.tail (.tail (.tail (.tail .head))))) | exact .tail (.tail (.tail (.tail (.tail (.tail (.tail .head))))))))))) ?_
          rintro _ R ⟨_, ⟨rfl, rfl⟩, rfl⟩
          try simp only [List.cons_append, List.nil_append]
          refine gl_v rfl (o_not rfl) ?_
          refine gl_nil ?_
          refine ge_then ?_
          refine g_cond rfl (fun hc4 => ?_) (fun hc4 => ?_)
          ·
            first | replace hc4 := of_decide_eq_true hc4 | replace hc4 := lt_f hc4 | replace hc4 := le_f hc4 | replace hc4 := dec_f hc4 | replace hc4 := nlt_t hc4 | replace hc4 := nle_t hc4 | replace hc4 := ndec_t hc4 | replace hc4 := ndec_f hc4 | replace hc4 := nn_t hc4 | replace hc4 := nn_f hc4 | skip
            have hov : o.over = false := hc4
            refine g_seq ?_
            refine g_region ?_
            refine gl_v rfl (o_move rfl) ?_
            refine gl_v rfl (o_move rfl) ?_
            refine gl_v rfl (o_idxS rfl rfl (by first | assumption | omega)) ?_
            refine gl_v rfl (o_loadS rfl hfx) ?_
            refine gl_c rfl (o_call rfl (Step_spec p r m 0 8 L t o (fi_RI hF) hoi) (by repeat (first | exact .nil | (apply Part.cons; · (first | exact .head | exact .tail .head | exact .tail (.tail .head) | exact .tail (.tail (.tail .head)) | exact .tail (.tail (.tail (.tail .head))) | exact .tail (.tail (.tail (.tail (.tail .head)))) | exact .tail (.tail (.tail (.tail (.tail (.tail .head))))) | exact .tail (.tail (.tail (.tail (.tail (.tail (.tail .head))))))))))) ?_
            rintro _ R ⟨_, ⟨rfl, rfl⟩, rfl⟩
            try simp only [List.cons_append, List.nil_append]
            refine gl_nil ?_
            refine ge_then ?_
            refine g_region ?_
            refine gl_v rfl (o_move rfl) ?_
            refine gl_v rfl (o_move rfl) ?_
            refine gl_v rfl (o_idxS rfl rfl (by first | assumption | omega)) ?_
            refine gl_v rfl (o_loadS rfl (map_at (d := 0) (by omega))) ?_
            refine gl_v rfl (o_addR (ss.getD j 0 + 1) (wr_i64 (by have := hF.s0 hj; have := hF.few hj (by rw [ho]; exact hov); omega)) rfl rfl) ?_
            refine gl_v rfl (o_idxS rfl rfl (by first | assumption | omega)) ?_
            refine gl_u (o_storeS rfl rfl rfl (by simp; omega)) ?_
            rw [map_set1]
            refine gl_nil ?_
            refine ge_block ?_
            refine ge_then ?_
            refine g_region ?_
            refine gl_v rfl (o_move rfl) ?_
            refine gl_v rfl (o_addR _ (by first | exact wr_i64 (by omega) | rfl) rfl rfl) ?_
            refine gl_v rfl (o_assign rfl) ?_
            refine gl_nil ?_
            refine ge_imp (fs (i := j) (l := xs.map (fa r)) (A := fa r (p, goO 0 8 L o)) (by first | exact .head | exact .tail .head | exact .tail (.tail .head) | exact .tail (.tail (.tail .head)) | exact .tail (.tail (.tail (.tail .head))) | exact .tail (.tail (.tail (.tail (.tail .head)))) | exact .tail (.tail (.tail (.tail (.tail (.tail .head))))) | exact .tail (.tail (.tail (.tail (.tail (.tail (.tail .head))))))) (by first | exact .head | exact .tail .head | exact .tail (.tail .head) | exact .tail (.tail (.tail .head)) | exact .tail (.tail (.tail (.tail .head))) | exact .tail (.tail (.tail (.tail (.tail .head)))) | exact .tail (.tail (.tail (.tail (.tail (.tail .head))))) | exact .tail (.tail (.tail (.tail (.tail (.tail (.tail .head))))))) (by simp [hxl, hj])) ?_
            rw [fam_set]
            have hF' : FI n (goL 0 8 L o) ((xs.set j (p, goO 0 8 L o)).map (·.2)) (ss.set j (ss.getD j 0 + 1)) := by have h := hF.step hj (by rw [ho]; exact hov); rw [ho] at h; rw [snd_set]; exact h
            have hV' : Vis n vs.length (i + 1) ((xs.set j (p, goO 0 8 L o)).map (·.2)) (ss.set j (ss.getD j 0 + 1)) := by rw [snd_set]; exact Vis.early (snd_set .. ▸ hF') hc
            rw [← fp_set hx (goO 0 8 L o)]
            refine ge_round (i + 1, goL 0 8 L o, (if o.over then t else tup t), xs.set j (p, goO 0 8 L o), ss.set j (ss.getD j 0 + 1)) ⟨hF', by show (xs.set _ _).length = n; simp [hxl], by show i + 1 ≤ vs.length + 40 * n; omega, hV'⟩ (by show vs.length + 40 * n - (i + 1) < vs.length + 40 * n - i; omega) (Keep.cons rfl (Keep.cons rfl (Keep.cons rfl (Keep.cons rfl (Keep.cons rfl (Keep.nil)))))) ?_
            dsimp only
            exact (To.sat (by repeat (first | exact .nil | exact .done .refl | (apply To.cons; · (first | exact .head | exact .tail .head | exact .tail (.tail .head) | exact .tail (.tail (.tail .head)) | exact .tail (.tail (.tail (.tail .head))) | exact .tail (.tail (.tail (.tail (.tail .head)))) | exact .tail (.tail (.tail (.tail (.tail (.tail .head))))) | exact .tail (.tail (.tail (.tail (.tail (.tail (.tail .head)))))))) | exact .done (by repeat (first | exact .refl | apply Drop.skip)))))
          ·
            first | replace hc4 := of_decide_eq_true hc4 | replace hc4 := lt_f hc4 | replace hc4 := le_f hc4 | replace hc4 := dec_f hc4 | replace hc4 := nlt_t hc4 | replace hc4 := nle_t hc4 | replace hc4 := ndec_t hc4 | replace hc4 := ndec_f hc4 | replace hc4 := nn_t hc4 | replace hc4 := nn_f hc4 | skip
            have hov : o.over = true := hc4
            refine g_skip ?_
            refine ge_block ?_
            refine ge_then ?_
            refine g_region ?_
            refine gl_v rfl (o_move rfl) ?_
            refine gl_v rfl (o_addR _ (by first | exact wr_i64 (by omega) | rfl) rfl rfl) ?_
            refine gl_v rfl (o_assign rfl) ?_
            refine gl_nil ?_
            refine ge_imp (fs (i := j) (l := xs.map (fa r)) (A := fa r (p, o)) (by first | exact .head | exact .tail .head | exact .tail (.tail .head) | exact .tail (.tail (.tail .head)) | exact .tail (.tail (.tail (.tail .head))) | exact .tail (.tail (.tail (.tail (.tail .head)))) | exact .tail (.tail (.tail (.tail (.tail (.tail .head))))) | exact .tail (.tail (.tail (.tail (.tail (.tail (.tail .head))))))) (by first | exact .head | exact .tail .head | exact .tail (.tail .head) | exact .tail (.tail (.tail .head)) | exact .tail (.tail (.tail (.tail .head))) | exact .tail (.tail (.tail (.tail (.tail .head)))) | exact .tail (.tail (.tail (.tail (.tail (.tail .head))))) | exact .tail (.tail (.tail (.tail (.tail (.tail (.tail .head))))))) (by simp [hxl, hj])) ?_
            rw [fam_set]
            rw [set_same hx]
            have hV' : Vis n vs.length (i + 1) (xs.map (·.2)) ss := by exact Vis.early hF hc
            refine ge_round (i + 1, L, t, xs, ss) ⟨hF, hxl, by show i + 1 ≤ vs.length + 40 * n; omega, hV'⟩ (by show vs.length + 40 * n - (i + 1) < vs.length + 40 * n - i; omega) (Keep.cons rfl (Keep.cons rfl (Keep.cons rfl (Keep.cons rfl (Keep.cons rfl (Keep.nil)))))) ?_
            dsimp only
            exact (To.sat (by repeat (first | exact .nil | exact .done .refl | (apply To.cons; · (first | exact .head | exact .tail .head | exact .tail (.tail .head) | exact .tail (.tail (.tail .head)) | exact .tail (.tail (.tail (.tail .head))) | exact .tail (.tail (.tail (.tail (.tail .head)))) | exact .tail (.tail (.tail (.tail (.tail (.tail .head))))) | exact .tail (.tail (.tail (.tail (.tail (.tail (.tail .head)))))))) | exact .done (by repeat (first | exact .refl | apply Drop.skip)))))
        ·
          first | replace hc3 := of_decide_eq_true hc3 | replace hc3 := lt_f hc3 | replace hc3 := le_f hc3 | replace hc3 := dec_f hc3 | replace hc3 := nlt_t hc3 | replace hc3 := nle_t hc3 | replace hc3 := ndec_t hc3 | replace hc3 := ndec_f hc3 | replace hc3 := nn_t hc3 | replace hc3 := nn_f hc3 | skip
          have hc : vs.length ≤ i := by omega
          generalize hjd : i % n = j
          have hj : j < n := by rw [← hjd]; exact Nat.mod_lt _ (by omega)
          
          refine g_skip ?_
          refine ge_then ?_
          refine g_seq ?_
          obtain ⟨⟨p, o⟩, hx⟩ : ∃ q, xs[j]? = some q := ⟨_, List.getElem?_eq_getElem (by omega)⟩
          have ho := snd_get hx
          have hls := hF.ls
          have hoi := hF.oi j hj
          rw [ho] at hoi
          have hfx : (xs.map fp)[j * 1]? = some (ptr p 0) := by rw [Nat.mul_one]; exact map_at' hx
          refine g_fo (by first | exact .head | exact .tail .head | exact .tail (.tail .head) | exact .tail (.tail (.tail .head)) | exact .tail (.tail (.tail (.tail .head))) | exact .tail (.tail (.tail (.tail (.tail .head)))) | exact .tail (.tail (.tail (.tail (.tail (.tail .head))))) | exact .tail (.tail (.tail (.tail (.tail (.tail (.tail .head))))))) (map_at' hx) ?_
          refine g_region ?_
          refine gl_v rfl (o_move rfl) ?_
          refine gl_v rfl (o_move rfl) ?_
          refine gl_v rfl (o_idxS rfl rfl (by first | assumption | omega)) ?_
          refine gl_v rfl (o_loadS rfl hfx) ?_
          refine gl_c rfl (o_call rfl (Over_spec p r o) (by repeat (first | exact .nil | (apply Part.cons; · (first | exact .head | exact .tail .head | exact .tail (.tail .head) | exact .tail (.tail (.tail .head)) | exact .tail (.tail (.tail (.tail .head))) | exact .tail (.tail (.tail (.tail (.tail .head)))) | exact .tail (.tail (.tail (.tail (.tail (.tail .head))))) | exact .tail (.tail (.tail (.tail (.tail (.tail (.tail .head))))))))))) ?_
          rintro _ R ⟨_, ⟨rfl, rfl⟩, rfl⟩
          try simp only [List.cons_append, List.nil_append]
          refine gl_v rfl (o_not rfl) ?_
          refine gl_nil ?_
          refine ge_then ?_
          refine g_cond rfl (fun hc5 => ?_) (fun hc5 => ?_)
          ·
            first | replace hc5 := of_decide_eq_true hc5 | replace hc5 := lt_f hc5 | replace hc5 := le_f hc5 | replace hc5 := dec_f hc5 | replace hc5 := nlt_t hc5 | replace hc5 := nle_t hc5 | replace hc5 := ndec_t hc5 | replace hc5 := ndec_f hc5 | replace hc5 := nn_t hc5 | replace hc5 := nn_f hc5 | skip
            have hov : o.over = false := hc5
            refine g_seq ?_
            refine g_region ?_
            refine gl_v rfl (o_move rfl) ?_
            refine gl_v rfl (o_move rfl) ?_
            refine gl_v rfl (o_idxS rfl rfl (by first | assumption | omega)) ?_
            refine gl_v rfl (o_loadS rfl hfx) ?_
            refine gl_c rfl (o_call rfl (Step_spec p r m 0 8 L t o (fi_RI hF) hoi) (by repeat (first | exact .nil | (apply Part.cons; · (first | exact .head | exact .tail .head | exact .tail (.tail .head) | exact .tail (.tail (.tail .head)) | exact .tail (.tail (.tail (.tail .head))) | exact .tail (.tail (.tail (.tail (.tail .head)))) | exact .tail (.tail (.tail (.tail (.tail (.tail .head))))) | exact .tail (.tail (.tail (.tail (.tail (.tail (.tail .head))))))))))) ?_
            rintro _ R ⟨_, ⟨rfl, rfl⟩, rfl⟩
            try simp only [List.cons_append, List.nil_append]
            refine gl_nil ?_
            refine ge_then ?_
            refine g_region ?_
            refine gl_v rfl (o_move rfl) ?_
            refine gl_v rfl (o_move rfl) ?_
            refine gl_v rfl (o_idxS rfl rfl (by first | assumption | omega)) ?_
            refine gl_v rfl (o_loadS rfl (map_at (d := 0) (by omega))) ?_
            refine gl_v rfl (o_addR (ss.getD j 0 + 1) (wr_i64 (by have := hF.s0 hj; have := hF.few hj (by rw [ho]; exact hov); omega)) rfl rfl) ?_
            refine gl_v rfl (o_idxS rfl rfl (by first | assumption | omega)) ?_
            refine gl_u (o_storeS rfl rfl rfl (by simp; omega)) ?_
            rw [map_set1]
            refine gl_nil ?_
            refine ge_block ?_
            refine ge_then ?_
            refine g_region ?_
            refine gl_v rfl (o_move rfl) ?_
            refine gl_v rfl (o_addR _ (by first | exact wr_i64 (by omega) | rfl) rfl rfl) ?_
            refine gl_v rfl (o_assign rfl) ?_
            refine gl_nil ?_
            refine ge_imp (fs (i := j) (l := xs.map (fa r)) (A := fa r (p, goO 0 8 L o)) (by first | exact .head | exact .tail .head | exact .tail (.tail .head) | exact .tail (.tail (.tail .head)) | exact .tail (.tail (.tail (.tail .head))) | exact .tail (.tail (.tail (.tail (.tail .head)))) | exact .tail (.tail (.tail (.tail (.tail (.tail .head))))) | exact .tail (.tail (.tail (.tail (.tail (.tail (.tail .head))))))) (by first | exact .head | exact .tail .head | exact .tail (.tail .head) | exact .tail (.tail (.tail .head)) | exact .tail (.tail (.tail (.tail .head))) | exact .tail (.tail (.tail (.tail (.tail .head)))) | exact .tail (.tail (.tail (.tail (.tail (.tail .head))))) | exact .tail (.tail (.tail (.tail (.tail (.tail (.tail .head))))))) (by simp [hxl, hj])) ?_
            rw [fam_set]
            have hF' : FI n (goL 0 8 L o) ((xs.set j (p, goO 0 8 L o)).map (·.2)) (ss.set j (ss.getD j 0 + 1)) := by have h := hF.step hj (by rw [ho]; exact hov); rw [ho] at h; rw [snd_set]; exact h
            have hV' : Vis n vs.length (i + 1) ((xs.set j (p, goO 0 8 L o)).map (·.2)) (ss.set j (ss.getD j 0 + 1)) := by rw [snd_set]; subst hjd; exact hV.step hF (by omega) (by rw [ho]; exact hov) _
            rw [← fp_set hx (goO 0 8 L o)]
            refine ge_round (i + 1, goL 0 8 L o, (if o.over then t else tup t), xs.set j (p, goO 0 8 L o), ss.set j (ss.getD j 0 + 1)) ⟨hF', by show (xs.set _ _).length = n; simp [hxl], by show i + 1 ≤ vs.length + 40 * n; omega, hV'⟩ (by show vs.length + 40 * n - (i + 1) < vs.length + 40 * n - i; omega) (Keep.cons rfl (Keep.cons rfl (Keep.cons rfl (Keep.cons rfl (Keep.cons rfl (Keep.nil)))))) ?_
            dsimp only
            exact (To.sat (by repeat (first | exact .nil | exact .done .refl | (apply To.cons; · (first | exact .head | exact .tail .head | exact .tail (.tail .head) | exact .tail (.tail (.tail .head)) | exact .tail (.tail (.tail (.tail .head))) | exact .tail (.tail (.tail (.tail (.tail .head)))) | exact .tail (.tail (.tail (.tail (.tail (.tail .head))))) | exact .tail (.tail (.tail (.tail (.tail (.tail (.tail .head)))))))) | exact .done (by repeat (first | exact .refl | apply Drop.skip)))))
          ·
            first | replace hc5 := of_decide_eq_true hc5 | replace hc5 := lt_f hc5 | replace hc5 := le_f hc5 | replace hc5 := dec_f hc5 | replace hc5 := nlt_t hc5 | replace hc5 := nle_t hc5 | replace hc5 := ndec_t hc5 | replace hc5 := ndec_f hc5 | replace hc5 := nn_t hc5 | replace hc5 := nn_f hc5 | skip
            have hov : o.over = true := hc5
            refine g_skip ?_
            refine ge_block ?_
            refine ge_then ?_
            refine g_region ?_
            refine gl_v rfl (o_move rfl) ?_
            refine gl_v rfl (o_addR _ (by first | exact wr_i64 (by omega) | rfl) rfl rfl) ?_
            refine gl_v rfl (o_assign rfl) ?_
            refine gl_nil ?_
            refine ge_imp (fs (i := j) (l := xs.map (fa r)) (A := fa r (p, o)) (by first | exact .head | exact .tail .head | exact .tail (.tail .head) | exact .tail (.tail (.tail .head)) | exact .tail (.tail (.tail (.tail .head))) | exact .tail (.tail (.tail (.tail (.tail .head)))) | exact .tail (.tail (.tail (.tail (.tail (.tail .head))))) | exact .tail (.tail (.tail (.tail (.tail (.tail (.tail .head))))))) (by first | exact .head | exact .tail .head | exact .tail (.tail .head) | exact .tail (.tail (.tail .head)) | exact .tail (.tail (.tail (.tail .head))) | exact .tail (.tail (.tail (.tail (.tail .head)))) | exact .tail (.tail (.tail (.tail (.tail (.tail .head))))) | exact .tail (.tail (.tail (.tail (.tail (.tail (.tail .head))))))) (by simp [hxl, hj])) ?_
            rw [fam_set]
            rw [set_same hx]
            have hV' : Vis n vs.length (i + 1) (xs.map (·.2)) ss := by subst hjd; exact hV.skip (by omega) (by rw [ho]; exact hov)
            refine ge_round (i + 1, L, t, xs, ss) ⟨hF, hxl, by show i + 1 ≤ vs.length + 40 * n; omega, hV'⟩ (by show vs.length + 40 * n - (i + 1) < vs.length + 40 * n - i; omega) (Keep.cons rfl (Keep.cons rfl (Keep.cons rfl (Keep.cons rfl (Keep.cons rfl (Keep.nil)))))) ?_
            dsimp only
            exact (To.sat (by repeat (first | exact .nil | exact .done .refl | (apply To.cons; · (first | exact .head | exact .tail .head | exact .tail (.tail .head) | exact .tail (.tail (.tail .head)) | exact .tail (.tail (.tail (.tail .head))) | exact .tail (.tail (.tail (.tail (.tail .head)))) | exact .tail (.tail (.tail (.tail (.tail (.tail .head))))) | exact .tail (.tail (.tail (.tail (.tail (.tail (.tail .head)))))))) | exact .done (by repeat (first | exact .refl | apply Drop.skip)))))
      ·
        first | replace hc2 := of_decide_eq_true hc2 | replace hc2 := lt_f hc2 | replace hc2 := le_f hc2 | replace hc2 := dec_f hc2 | replace hc2 := nlt_t hc2 | replace hc2 := nle_t hc2 | replace hc2 := ndec_t hc2 | replace hc2 := ndec_f hc2 | replace hc2 := nn_t hc2 | replace hc2 := nn_f hc2 | skip
        refine g_exit ?_
        refine ge_then_exit ?_
        refine ge_then_exit ?_
        refine ge_block_exit ?_
        exact fun act wo hsl st => ⟨L, t, xs, ss, hF, hxl, fun p hp => hV.all hF (by omega) hp, hsl.keep (Keep.cons rfl (Keep.cons rfl (Keep.cons rfl (Keep.cons rfl (Keep.nil))))), st.imp (To.sat (by repeat (first | exact .nil | exact .done .refl | (apply To.cons; · (first | exact .head | exact .tail .head | exact .tail (.tail .head) | exact .tail (.tail (.tail .head)) | exact .tail (.tail (.tail (.tail .head))) | exact .tail (.tail (.tail (.tail (.tail .head)))) | exact .tail (.tail (.tail (.tail (.tail (.tail .head))))) | exact .tail (.tail (.tail (.tail (.tail (.tail (.tail .head)))))))) | exact .done (by repeat (first | exact .refl | apply Drop.skip)))))⟩
    ·
      rintro act wo ⟨L, t, xs, ss, hF, hxl, hall, hsl, st⟩
      refine g_of ?_ hsl st
      clear hsl st act wo
      refine g_seq ?_
      refine g_region ?_
      refine gl_v rfl (o_move rfl) ?_
      refine gl_n rfl (o_makeS rfl rfl (by unfold maxLen; omega) (by omega)) ?_
      rintro _ _ ⟨a80, c80, rfl, rfl⟩
      rw [rep_map Value.bool]
      refine gl_v rfl (o_assign rfl) ?_
      refine gl_nil ?_
      refine ge_then ?_
      refine g_seq ?_
      refine g_seq ?_
      refine g_region ?_
      refine gl_v rfl (o_assign rfl) ?_
      refine gl_nil ?_
      refine ge_then ?_
      refine g_block ?_
      refine g_loop (ι := Nat × List Bool) (fun x => x.1 ≤ n ∧ x.2.length = n ∧ ∀ t : Nat, t < n → x.2.getD t false = true → ∃ q, q < x.1 ∧ ((xs.map (·.2)).getD q d0).tick = t) (fun x => [(13, I64 x.1), (7, .slice a7 n c7), (8, .slice a26 n c26), (12, .slice a80 n c80), (5, I64 n)]) (fun x => own (.slice a80 n c80) 4 1 n (x.2.map Value.bool) :: own (.slice a7 n c7) 50 1 n (xs.map fp) :: fam (xs.map (fa r)) :: own (.slice a26 n c26) 3 1 n (ss.map I64) :: memA m L t :: ringA r m 0 8 :: A :: R) (fun x => n - x.1) (0, List.replicate n false) (⟨Nat.zero_le _, by simp, fun t ht h => by simp [List.getD_eq_getElem?_getD, ht] at h⟩) (Keep.cons rfl (Keep.cons rfl (Keep.cons rfl (Keep.cons rfl (Keep.cons rfl (Keep.nil)))))) (To.sat (by repeat (first | exact .nil | exact .done .refl | (apply To.cons; · (first | exact .head | exact .tail .head | exact .tail (.tail .head) | exact .tail (.tail (.tail .head)) | exact .tail (.tail (.tail (.tail .head))) | exact .tail (.tail (.tail (.tail (.tail .head)))) | exact .tail (.tail (.tail (.tail (.tail (.tail .head))))) | exact .tail (.tail (.tail (.tail (.tail (.tail (.tail .head)))))))) | exact .done (by repeat (first | exact .refl | apply Drop.skip))))) ?_
      rintro ⟨j, sn⟩ ⟨hj0, hsl, hsn⟩
      have hj0 : j ≤ n := hj0
      have hsl : sn.length = n := hsl
      have hsn : ∀ t : Nat, t < n → sn.getD t false = true → ∃ q, q < j ∧ ((xs.map (·.2)).getD q d0).tick = t := hsn
      dsimp only
      refine g_seq ?_
      refine g_seq ?_
      refine g_region ?_
      refine gl_v rfl (o_move rfl) ?_
      refine gl_v rfl (o_move rfl) ?_
      refine gl_v rfl (o_lss rfl rfl) ?_
      refine gl_nil ?_
      refine ge_then ?_
      refine g_cond rfl (fun hc6 => ?_) (fun hc6 => ?_)
      ·
        first | replace hc6 := of_decide_eq_true hc6 | replace hc6 := lt_f hc6 | replace hc6 := le_f hc6 | replace hc6 := dec_f hc6 | replace hc6 := nlt_t hc6 | replace hc6 := nle_t hc6 | replace hc6 := ndec_t hc6 | replace hc6 := ndec_f hc6 | replace hc6 := nn_t hc6 | replace hc6 := nn_f hc6 | skip
        have hj : j < n := by omega
        refine g_skip ?_
        refine ge_then ?_
        refine g_seq ?_
        refine g_block ?_
        refine g_seq ?_
        obtain ⟨⟨p, o⟩, hx⟩ : ∃ q, xs[j]? = some q := ⟨_, List.getElem?_eq_getElem (by omega)⟩
        have ho := snd_get hx
        have hls := hF.ls
        have hoi := hF.oi j hj
        rw [ho] at hoi
        have hfx : (xs.map fp)[j * 1]? = some (ptr p 0) := by rw [Nat.mul_one]; exact map_at' hx
        refine g_fo (by first | exact .head | exact .tail .head | exact .tail (.tail .head) | exact .tail (.tail (.tail .head)) | exact .tail (.tail (.tail (.tail .head))) | exact .tail (.tail (.tail (.tail (.tail .head)))) | exact .tail (.tail (.tail (.tail (.tail (.tail .head))))) | exact .tail (.tail (.tail (.tail (.tail (.tail (.tail .head))))))) (map_at' hx) ?_
        have hd := hF.done hj (hall j hj)
        rw [ho] at hd
        obtain ⟨τ, hτ⟩ : ∃ τ : Nat, o.tick = τ := ⟨o.tick.toNat, by omega⟩
        have htick : o.ticket = τ := by unfold RO.ticket; rw [if_pos hd.1, hτ]
        have hfree : sn.getD τ false = false := by
          cases hs : sn.getD τ false with
          | false => rfl
          | true =>
            obtain ⟨q, hq1, hq2⟩ := hsn τ (by omega) hs
            have := hF.dist q j (by omega) hj (hF.done (by omega) (hall q (by omega))).2.2.2.1 (by rw [ho]; exact hd.2.2.2.1) (by rw [hq2, ho, hτ])
            omega
        refine g_region ?_
        refine gl_v rfl (o_move rfl) ?_
        refine gl_v rfl (o_move rfl) ?_
        refine gl_v rfl (o_idxS rfl rfl (by first | assumption | omega)) ?_
        refine gl_v rfl (o_loadS rfl hfx) ?_
        refine gl_c rfl (o_call rfl (Ticket_spec p r o) (by repeat (first | exact .nil | (apply Part.cons; · (first | exact .head | exact .tail .head | exact .tail (.tail .head) | exact .tail (.tail (.tail .head)) | exact .tail (.tail (.tail (.tail .head))) | exact .tail (.tail (.tail (.tail (.tail .head)))) | exact .tail (.tail (.tail (.tail (.tail (.tail .head))))) | exact .tail (.tail (.tail (.tail (.tail (.tail (.tail .head))))))))))) ?_
        rintro _ R ⟨_, ⟨rfl, rfl⟩, rfl⟩
        try simp only [List.cons_append, List.nil_append]
        rw [htick]
        refine gl_v rfl (o_assign rfl) ?_
        refine gl_nil ?_
        refine ge_then ?_
        refine g_seq ?_
        refine g_seq ?_
        refine g_region ?_
        refine gl_v rfl (o_move rfl) ?_
        refine gl_v rfl (o_move rfl) ?_
        refine gl_v rfl (o_idxS rfl rfl (by first | assumption | omega)) ?_
        refine gl_v rfl (o_loadS rfl hfx) ?_
        refine gl_c rfl (o_call rfl (Outcome_spec p r o) (by repeat (first | exact .nil | (apply Part.cons; · (first | exact .head | exact .tail .head | exact .tail (.tail .head) | exact .tail (.tail (.tail .head)) | exact .tail (.tail (.tail (.tail .head))) | exact .tail (.tail (.tail (.tail (.tail .head)))) | exact .tail (.tail (.tail (.tail (.tail (.tail .head))))) | exact .tail (.tail (.tail (.tail (.tail (.tail (.tail .head))))))))))) ?_
        rintro _ R ⟨_, ⟨rfl, rfl⟩, rfl⟩
        try simp only [List.cons_append, List.nil_append]
        refine gl_v rfl (o_is (c := false) (by rw [hd.1]; rfl) (o_neq rfl rfl)) ?_
        refine gl_v rfl (o_move rfl) ?_
        refine gl_gT rfl rfl rfl ?_
        refine gl_v rfl (o_move rfl) ?_
        refine gl_gT rfl rfl rfl ?_
        refine gl_v rfl (o_move rfl) ?_
        refine gl_gT rfl rfl rfl ?_
        refine gl_v rfl (o_idxS rfl rfl (by first | assumption | omega)) ?_
        refine gl_gT rfl rfl rfl ?_
        refine gl_v rfl (o_loadS rfl (map_at (d := 0) (by omega))) ?_
        refine gl_gT rfl rfl rfl ?_
        refine gl_v rfl (o_move rfl) ?_
        refine gl_gT rfl rfl rfl ?_
        refine gl_v rfl (o_mulR _ (by first | exact wr_i64 (by omega) | rfl) rfl rfl) ?_
        refine gl_gT rfl rfl rfl ?_
        refine gl_v rfl (o_addR _ (by first | exact wr_i64 (by omega) | rfl) rfl rfl) ?_
        refine gl_gT rfl rfl rfl ?_
        refine gl_v rfl (o_is (c := false) (decide_eq_false (by omega)) (o_gtr rfl rfl)) ?_
        refine gl_v rfl (o_pickF rfl rfl rfl) ?_
        refine gl_v rfl (o_move rfl) ?_
        refine gl_gT rfl rfl rfl ?_
        refine gl_v rfl (o_move rfl) ?_
        refine gl_gT rfl rfl rfl ?_
        refine gl_v rfl (o_move rfl) ?_
        refine gl_gT rfl rfl rfl ?_
        refine gl_v rfl (o_convR (n : Int) (wr_u64 (by omega)) rfl) ?_
        refine gl_gT rfl rfl rfl ?_
        refine gl_v rfl (o_is (c := false) (decide_eq_false (by omega)) (o_geq rfl rfl)) ?_
        refine gl_v rfl (o_pickF rfl rfl rfl) ?_
        refine gl_v rfl (o_move rfl) ?_
        refine gl_gT rfl rfl rfl ?_
        refine gl_v rfl (o_move rfl) ?_
        refine gl_gT rfl rfl rfl ?_
        refine gl_v rfl (o_move rfl) ?_
        refine gl_gT rfl rfl rfl ?_
        refine gl_v rfl (o_idxS rfl rfl (by omega)) ?_
        refine gl_gT rfl rfl rfl ?_
        refine gl_v rfl (o_is (c := false) hfree (o_loadS rfl (map_at (d := false) (by omega)))) ?_
        refine gl_v rfl (o_pickF rfl rfl rfl) ?_
        refine gl_nil ?_
        refine ge_then ?_
        refine g_cond_false rfl ?_
        refine g_skip ?_
        refine ge_then ?_
        refine g_region ?_
        refine gl_v rfl (o_move rfl) ?_
        refine gl_v rfl (o_move rfl) ?_
        refine gl_v rfl (o_idxS rfl rfl (by omega)) ?_
        refine gl_u (o_storeS rfl rfl rfl (by simp; omega)) ?_
        refine gl_nil ?_
        refine ge_block ?_
        refine ge_then ?_
        refine g_region ?_
        refine gl_v rfl (o_move rfl) ?_
        refine gl_v rfl (o_addR _ (by first | exact wr_i64 (by omega) | rfl) rfl rfl) ?_
        refine gl_v rfl (o_assign rfl) ?_
        refine gl_nil ?_
        refine ge_imp (fs (i := j) (l := xs.map (fa r)) (A := fa r (p, o)) (by first | exact .head | exact .tail .head | exact .tail (.tail .head) | exact .tail (.tail (.tail .head)) | exact .tail (.tail (.tail (.tail .head))) | exact .tail (.tail (.tail (.tail (.tail .head)))) | exact .tail (.tail (.tail (.tail (.tail (.tail .head))))) | exact .tail (.tail (.tail (.tail (.tail (.tail (.tail .head))))))) (by first | exact .head | exact .tail .head | exact .tail (.tail .head) | exact .tail (.tail (.tail .head)) | exact .tail (.tail (.tail (.tail .head))) | exact .tail (.tail (.tail (.tail (.tail .head)))) | exact .tail (.tail (.tail (.tail (.tail (.tail .head))))) | exact .tail (.tail (.tail (.tail (.tail (.tail (.tail .head))))))) (by simp [hxl, hj])) ?_
        rw [fam_set]
        rw [set_same hx, Nat.mul_one, ← List.map_set]
        refine ge_round (j + 1, sn.set τ true) ⟨by show j + 1 ≤ n; omega, by simp [hsl], fun u hu h => ?_⟩ (by show n - (j + 1) < n - j; omega) (Keep.cons rfl (Keep.cons rfl (Keep.cons rfl (Keep.cons rfl (Keep.cons rfl (Keep.nil)))))) (To.sat (by repeat (first | exact .nil | exact .done .refl | (apply To.cons; · (first | exact .head | exact .tail .head | exact .tail (.tail .head) | exact .tail (.tail (.tail .head)) | exact .tail (.tail (.tail (.tail .head))) | exact .tail (.tail (.tail (.tail (.tail .head)))) | exact .tail (.tail (.tail (.tail (.tail (.tail .head))))) | exact .tail (.tail (.tail (.tail (.tail (.tail (.tail .head)))))))) | exact .done (by repeat (first | exact .refl | apply Drop.skip)))))
        simp only at h
        rw [getD_set _ _ _ _ _ (by omega)] at h
        by_cases e : u = τ
        · exact ⟨j, Nat.lt_succ_self j, by rw [ho, e]; exact hτ⟩
        · rw [if_neg e] at h; obtain ⟨q, h1, h2⟩ := hsn u hu h; exact ⟨q, Nat.lt_succ_of_lt h1, h2⟩
      ·
        first | replace hc6 := of_decide_eq_true hc6 | replace hc6 := lt_f hc6 | replace hc6 := le_f hc6 | replace hc6 := dec_f hc6 | replace hc6 := nlt_t hc6 | replace hc6 := nle_t hc6 | replace hc6 := ndec_t hc6 | replace hc6 := ndec_f hc6 | replace hc6 := nn_t hc6 | replace hc6 := nn_f hc6 | skip
        refine g_exit ?_
        refine ge_then_exit ?_
        refine ge_then_exit ?_
        refine ge_block_exit ?_
        refine ge_then ?_
        refine g_seq ?_
        refine g_region ?_
        refine gl_v rfl (o_assign rfl) ?_
        refine gl_nil ?_
        refine ge_then ?_
        refine g_ret ?_
        refine ret1 (.inl rfl) rfl rfl _ (⟨rfl, rfl⟩) (To.sat (by repeat (first | exact .nil | exact .done .refl | (apply To.cons; · (first | exact .head | exact .tail .head | exact .tail (.tail .head) | exact .tail (.tail (.tail .head)) | exact .tail (.tail (.tail (.tail .head))) | exact .tail (.tail (.tail (.tail (.tail .head)))) | exact .tail (.tail (.tail (.tail (.tail (.tail .head))))) | exact .tail (.tail (.tail (.tail (.tail (.tail (.tail .head)))))))) | exact .done (by repeat (first | exact .refl | apply Drop.skip)))))

end Go.Proofs.Ytnkcgfllehohbaa.L
