/-
  The ledger's functions and their reference: what each call does. Own work, printed in part by a program of its own.
-/
import Derived.Test.YtdfmflccmnniaaaFacts
import Derived.Test.YtdfmflccmnniaaaLedgerP
namespace Go.Proofs.Ytdfmflccmnniaaa.L
open Go.L Go.L.Led
def ledger (p : Nat) (r : List (Int × Int)) : Assn :=
  exA (ι := Nat × (Option Addr × Nat) × List Int) (fun x => LOk r x.2.2) (fun x => [cel p 52 (.map (some x.1) :: .slice x.2.1.1 r.length x.2.1.2 :: x.2.2.map I64), mapI x.1 .u64 (r.map fun q => (q.1, I64 q.2)), own (.slice x.2.1.1 r.length x.2.1.2) 29 1 r.length (r.map fun q => U64 q.1)])
theorem ledger_close {p : Nat} {r r' : List (Int × Int)} {As R : List Assn} (mb : Nat) (a : Option Addr) (c : Nat) (cs : List Int) (hL : LOk r cs) (e : r' = r)
    (t : ∀ h, Sat As h → Sat (cel p 52 (.map (some mb) :: .slice a r.length c :: cs.map I64) :: mapI mb .u64 (r.map fun q => (q.1, I64 q.2)) :: own (.slice a r.length c) 29 1 r.length (r.map fun q => U64 q.1) :: R) h) : ∀ h, Sat As h → Sat (ledger p r' :: R) h := by
  subst e; exact ex_close (mb, (a, c), cs) hL t
theorem wh_look (r : List (Int × Int)) (id : Int) : (mget (r.map fun q => (q.1, I64 q.2)) id).getD (.int .i64 0) = I64 (wh r id) := by
  rw [mget_map]; unfold wh; cases mget r id <;> rfl
theorem mget_of_hl {r : List (Int × Int)} {id : Int} (h : 1 ≤ wh r id) : mget r id = some (wh r id) := by
  unfold wh at h ⊢
  cases hm : mget r id with
  | none => rw [hm] at h; simp at h
  | some x => simp
theorem put_fst {r : List (Int × Int)} {id w x : Int} (h : mget r id = some x) : (mput r id w).map (fun q => U64 q.1) = r.map (fun q => U64 q.1) := by
  have := congrArg (List.map U64) (mput_fst (w := w) h); rw [List.map_map, List.map_map] at this; exact this
theorem wh_at {r : List (Int × Int)} (h : ROk r) {k : Nat} {q : Int × Int} (hq : r[k]? = some q) : wh r q.1 = q.2 := by
  have nd := h.nd
  clear h
  unfold wh
  induction r generalizing k with
  | nil => simp at hq
  | cons p r ih =>
    simp only [List.map_cons, List.nodup_cons] at nd
    cases k with
    | zero => simp at hq; subst hq; simp [mget]
    | succ k =>
      simp only [List.getElem?_cons_succ] at hq
      have : q.1 ≠ p.1 := fun e => nd.1 (by rw [← e]; exact List.mem_map_of_mem (List.mem_of_getElem? hq))
      simp only [mget, if_neg this]
      exact ih hq nd.2
abbrev places (v : Value) (r : List (Int × Int)) : Assn := own v 43 2 r.length (pl r)

theorem holds_spec (x : Int) : FnS Try.prog 25 [I64 x] [] (fun v Bs => v = .bool (decide (1 ≤ x ∧ x ≤ 6)) ∧ Bs = []) := by
  refine fn_body Try.func25 rfl rfl rfl ?_
  intro W0 R
  simp only [List.zipIdx_cons, List.zipIdx_nil, List.map_cons, List.map_nil, Nat.zero_add, Nat.reduceAdd, List.cons_append, List.nil_append]
  refine g_seq ?_
  refine g_region ?_
  refine gl_v rfl (o_assign rfl) ?_
  refine gl_nil ?_
  refine ge_then ?_
  refine g_seq ?_
  refine g_region ?_
  refine gl_v rfl (o_move rfl) ?_
  refine gl_v rfl (o_geq rfl rfl) ?_
  refine gl_v rfl (o_move rfl) ?_
  refine gl_g rfl rfl (fun hc1 => ?_) (fun hc1 => ?_) rfl
  ·
    have hc1' := hc1
    first | replace hc1' := of_decide_eq_true hc1' | replace hc1' := lt_f hc1' | replace hc1' := le_f hc1' | replace hc1' := dec_f hc1' | replace hc1' := nlt_t hc1' | replace hc1' := nle_t hc1' | replace hc1' := ndec_t hc1' | replace hc1' := ndec_f hc1' | replace hc1' := nn_t hc1' | replace hc1' := nn_f hc1' | skip
    refine gl_v rfl (o_move rfl) ?_
    refine gl_gT rfl rfl hc1 ?_
    refine gl_v rfl (o_leq rfl rfl) ?_
    refine gl_v rfl (o_pickT hc1 rfl rfl) ?_
    refine gl_v rfl (o_assign rfl) ?_
    refine gl_nil ?_
    refine ge_then ?_
    refine g_ret ?_
    refine ret1 (.inl rfl) rfl rfl _ (⟨by congr 1; simp; omega, rfl⟩) (To.sat (by repeat (first | exact .nil | exact .done .refl | (apply To.cons; · (first | exact .head | exact .tail .head | exact .tail (.tail .head) | exact .tail (.tail (.tail .head)) | exact .tail (.tail (.tail (.tail .head))) | exact .tail (.tail (.tail (.tail (.tail .head)))) | exact .tail (.tail (.tail (.tail (.tail (.tail .head))))) | exact .tail (.tail (.tail (.tail (.tail (.tail (.tail .head)))))))) | exact .done (by repeat (first | exact .refl | apply Drop.skip)))))
  ·
    have hc1' := hc1
    first | replace hc1' := of_decide_eq_true hc1' | replace hc1' := lt_f hc1' | replace hc1' := le_f hc1' | replace hc1' := dec_f hc1' | replace hc1' := nlt_t hc1' | replace hc1' := nle_t hc1' | replace hc1' := ndec_t hc1' | replace hc1' := ndec_f hc1' | replace hc1' := nn_t hc1' | replace hc1' := nn_f hc1' | skip
    simp only [putO]
    refine gl_gF rfl rfl hc1 rfl ?_
    refine gl_v rfl (o_pickF hc1 rfl rfl) ?_
    refine gl_v rfl (o_assign rfl) ?_
    refine gl_nil ?_
    refine ge_then ?_
    refine g_ret ?_
    refine ret1 (.inl rfl) rfl rfl _ (⟨by congr 1; simp; omega, rfl⟩) (To.sat (by repeat (first | exact .nil | exact .done .refl | (apply To.cons; · (first | exact .head | exact .tail .head | exact .tail (.tail .head) | exact .tail (.tail (.tail .head)) | exact .tail (.tail (.tail (.tail .head))) | exact .tail (.tail (.tail (.tail (.tail .head)))) | exact .tail (.tail (.tail (.tail (.tail (.tail .head))))) | exact .tail (.tail (.tail (.tail (.tail (.tail (.tail .head)))))))) | exact .done (by repeat (first | exact .refl | apply Drop.skip)))))

theorem rholds_spec (x : Int) : FnS Try.prog 26 [I64 x] [] (fun v Bs => v = .bool (decide (1 ≤ x ∧ x ≤ 6)) ∧ Bs = []) := by
  refine fn_body Try.func26 rfl rfl rfl ?_
  intro W0 R
  simp only [List.zipIdx_cons, List.zipIdx_nil, List.map_cons, List.map_nil, Nat.zero_add, Nat.reduceAdd, List.cons_append, List.nil_append]
  refine g_seq ?_
  refine g_region ?_
  refine gl_v rfl (o_assign rfl) ?_
  refine gl_nil ?_
  refine ge_then ?_
  refine g_seq ?_
  refine g_region ?_
  refine gl_v rfl (o_move rfl) ?_
  refine gl_v rfl (o_geq rfl rfl) ?_
  refine gl_v rfl (o_move rfl) ?_
  refine gl_g rfl rfl (fun hc1 => ?_) (fun hc1 => ?_) rfl
  ·
    have hc1' := hc1
    first | replace hc1' := of_decide_eq_true hc1' | replace hc1' := lt_f hc1' | replace hc1' := le_f hc1' | replace hc1' := dec_f hc1' | replace hc1' := nlt_t hc1' | replace hc1' := nle_t hc1' | replace hc1' := ndec_t hc1' | replace hc1' := ndec_f hc1' | replace hc1' := nn_t hc1' | replace hc1' := nn_f hc1' | skip
    refine gl_v rfl (o_move rfl) ?_
    refine gl_gT rfl rfl hc1 ?_
    refine gl_v rfl (o_leq rfl rfl) ?_
    refine gl_v rfl (o_pickT hc1 rfl rfl) ?_
    refine gl_v rfl (o_assign rfl) ?_
    refine gl_nil ?_
    refine ge_then ?_
    refine g_ret ?_
    refine ret1 (.inl rfl) rfl rfl _ (⟨by congr 1; simp; omega, rfl⟩) (To.sat (by repeat (first | exact .nil | exact .done .refl | (apply To.cons; · (first | exact .head | exact .tail .head | exact .tail (.tail .head) | exact .tail (.tail (.tail .head)) | exact .tail (.tail (.tail (.tail .head))) | exact .tail (.tail (.tail (.tail (.tail .head)))) | exact .tail (.tail (.tail (.tail (.tail (.tail .head))))) | exact .tail (.tail (.tail (.tail (.tail (.tail (.tail .head)))))))) | exact .done (by repeat (first | exact .refl | apply Drop.skip)))))
  ·
    have hc1' := hc1
    first | replace hc1' := of_decide_eq_true hc1' | replace hc1' := lt_f hc1' | replace hc1' := le_f hc1' | replace hc1' := dec_f hc1' | replace hc1' := nlt_t hc1' | replace hc1' := nle_t hc1' | replace hc1' := ndec_t hc1' | replace hc1' := ndec_f hc1' | replace hc1' := nn_t hc1' | replace hc1' := nn_f hc1' | skip
    simp only [putO]
    refine gl_gF rfl rfl hc1 rfl ?_
    refine gl_v rfl (o_pickF hc1 rfl rfl) ?_
    refine gl_v rfl (o_assign rfl) ?_
    refine gl_nil ?_
    refine ge_then ?_
    refine g_ret ?_
    refine ret1 (.inl rfl) rfl rfl _ (⟨by congr 1; simp; omega, rfl⟩) (To.sat (by repeat (first | exact .nil | exact .done .refl | (apply To.cons; · (first | exact .head | exact .tail .head | exact .tail (.tail .head) | exact .tail (.tail (.tail .head)) | exact .tail (.tail (.tail (.tail .head))) | exact .tail (.tail (.tail (.tail (.tail .head)))) | exact .tail (.tail (.tail (.tail (.tail (.tail .head))))) | exact .tail (.tail (.tail (.tail (.tail (.tail (.tail .head)))))))) | exact .done (by repeat (first | exact .refl | apply Drop.skip)))))

theorem move_spec (p mb : Nat) (v : Value) (cs : List Int) (m : List (Int × Int)) (id : Int) (k j : Nat) (hcs : cs.length = 9) (hk : wh m id = k) (hk9 : k < 9) (hj : j < 9) :
    FnS Try.prog 27 [ptr p 0, U64 id, I64 j] [cel p 52 (.map (some mb) :: v :: cs.map I64), mapI mb .u64 (m.map fun p => (p.1, I64 p.2))]
      (fun u Bs => u = .tuple #[] ∧ Bs = [cel p 52 (.map (some mb) :: v :: (bump (bump cs k (-1)) j 1).map I64), mapI mb .u64 ((mput m id j).map fun p => (p.1, I64 p.2))]) := by
  refine fn_body Try.func27 rfl rfl rfl ?_
  intro W0 R
  simp only [List.zipIdx_cons, List.zipIdx_nil, List.map_cons, List.map_nil, Nat.zero_add, Nat.reduceAdd, List.cons_append, List.nil_append]
  refine g_seq ?_
  refine g_draw [15] [(0, .loc), (1, .loc), (2, .loc), (3, .loc), (4, .loc), (5, .loc), (6, .loc), (7, .loc), (8, .loc), (9, .loc), (10, .loc), (11, .loc), (12, .loc), (13, .loc), (14, .loc), (15, .eff)] [] mixed (by kernel_rfl) ?_
  refine go_v rfl .none rfl (o_move rfl) ?_
  refine go_v rfl .none rfl (o_move rfl) ?_
  refine go_v rfl .none rfl (o_nil rfl) ?_
  first | refine go_v rfl .none rfl (o_fldS rfl) ?_ | refine go_v rfl .none rfl (o_fld rfl) ?_
  first | refine go_v rfl .none rfl (o_load rfl rfl) ?_ | refine go_v rfl .none rfl (o_loadS rfl rfl) ?_
  refine go_v rfl .none rfl (o_move rfl) ?_
  refine go_v rfl .none rfl (o_lookupR (I64 k) (by rw [wh_look, hk]) rfl rfl) ?_
  refine go_v rfl .none rfl (o_nil rfl) ?_
  first | refine go_v rfl .none rfl (o_fldS rfl) ?_ | refine go_v rfl .none rfl (o_fld rfl) ?_
  refine go_v rfl .none rfl (o_idxA rfl rfl hk9) ?_
  refine go_v rfl .none rfl (o_load rfl (cs_get _ _ _ _ (by omega))) ?_
  refine go_v rfl .none rfl (o_sub rfl rfl) ?_
  refine go_v rfl .none rfl (o_nil rfl) ?_
  first | refine go_v rfl .none rfl (o_fldS rfl) ?_ | refine go_v rfl .none rfl (o_fld rfl) ?_
  refine go_v rfl .none rfl (o_idxA rfl rfl hk9) ?_
  refine go_u rfl .none (o_store rfl rfl rfl (by simp [hcs]; omega)) (fun _ _ => trivial) ?_
  rw [cs_set]; change GO _ _ _ _ _ _ (cel p _ (_ :: _ :: (bump cs k (-1)).map I64) :: _) _ _
  refine go_nil ?_
  refine ge_then ?_
  refine g_seq ?_
  refine g_region ?_
  refine gl_v rfl (o_move rfl) ?_
  refine gl_v rfl (o_nil rfl) ?_
  first | refine gl_v rfl (o_fldS rfl) ?_ | refine gl_v rfl (o_fld rfl) ?_
  first | refine gl_v rfl (o_load rfl rfl) ?_ | refine gl_v rfl (o_loadS rfl rfl) ?_
  refine gl_v rfl (o_move rfl) ?_
  refine gl_v rfl (o_move rfl) ?_
  refine gl_u (o_mapUpd rfl rfl rfl) ?_
  rw [mput_map]
  refine gl_nil ?_
  refine ge_then ?_
  refine g_draw [10] [(0, .loc), (1, .loc), (2, .loc), (3, .loc), (4, .loc), (5, .loc), (6, .loc), (7, .loc), (8, .loc), (9, .loc), (10, .eff)] [] mixed (by kernel_rfl) ?_
  refine go_v rfl .none rfl (o_move rfl) ?_
  refine go_v rfl .none rfl (o_move rfl) ?_
  refine go_v rfl .none rfl (o_nil rfl) ?_
  first | refine go_v rfl .none rfl (o_fldS rfl) ?_ | refine go_v rfl .none rfl (o_fld rfl) ?_
  refine go_v rfl .none rfl (o_idxA rfl rfl hj) ?_
  refine go_v rfl .none rfl (o_load rfl (cs_get _ _ _ _ (by simp [bump]; omega))) ?_
  refine go_v rfl .none rfl (o_add rfl rfl) ?_
  refine go_v rfl .none rfl (o_nil rfl) ?_
  first | refine go_v rfl .none rfl (o_fldS rfl) ?_ | refine go_v rfl .none rfl (o_fld rfl) ?_
  refine go_v rfl .none rfl (o_idxA rfl rfl hj) ?_
  refine go_u rfl .none (o_store rfl rfl rfl (by simp [bump, hcs]; omega)) (fun _ _ => trivial) ?_
  rw [cs_set]
  refine go_nil ?_
  refine ret0 (.inr rfl) rfl _ (⟨rfl, rfl⟩) (To.sat (by repeat (first | exact .nil | exact .done .refl | (apply To.cons; · (first | exact .head | exact .tail .head | exact .tail (.tail .head) | exact .tail (.tail (.tail .head)) | exact .tail (.tail (.tail (.tail .head))) | exact .tail (.tail (.tail (.tail (.tail .head)))) | exact .tail (.tail (.tail (.tail (.tail (.tail .head))))) | exact .tail (.tail (.tail (.tail (.tail (.tail (.tail .head)))))))) | exact .done (by repeat (first | exact .refl | apply Drop.skip)))))

theorem from_spec (p : Nat) (r : List (Int × Int)) (id : Int) (j : Nat) (hr : r.length ≤ 1000000) (hj1 : 1 ≤ j) (hj : j < 9) :
    FnS Try.prog 28 [ptr p 0, U64 id, I64 j] [ledger p r] (fun u Bs => u = I64 (fromE r id) ∧ Bs = [ledger p (fromR r id j)]) := by
  refine fn_body Try.func28 rfl rfl rfl ?_
  intro W0 R
  simp only [List.zipIdx_cons, List.zipIdx_nil, List.map_cons, List.map_nil, Nat.zero_add, Nat.reduceAdd, List.cons_append, List.nil_append]
  refine g_open (by first | exact .head | exact .tail .head | exact .tail (.tail .head) | exact .tail (.tail (.tail .head)) | exact .tail (.tail (.tail (.tail .head))) | exact .tail (.tail (.tail (.tail (.tail .head)))) | exact .tail (.tail (.tail (.tail (.tail (.tail .head))))) | exact .tail (.tail (.tail (.tail (.tail (.tail (.tail .head))))))) ?_
  rintro ⟨mb, ⟨a, c⟩, cs⟩ hL
  have hL : LOk r cs := hL
  simp only [List.cons_append, List.nil_append]
  refine g_seq ?_
  refine g_region ?_
  refine gl_v rfl (o_assign rfl) ?_
  refine gl_nil ?_
  refine ge_then ?_
  refine g_seq ?_
  refine g_seq ?_
  refine g_region ?_
  refine gl_v rfl (o_move rfl) ?_
  refine gl_v rfl (o_nil rfl) ?_
  first | refine gl_v rfl (o_fldS rfl) ?_ | refine gl_v rfl (o_fld rfl) ?_
  first | refine gl_v rfl (o_load rfl rfl) ?_ | refine gl_v rfl (o_loadS rfl rfl) ?_
  refine gl_v rfl (o_move rfl) ?_
  refine gl_v rfl (o_lookupR _ (wh_look r id) rfl rfl) ?_
  refine gl_c rfl (o_call rfl (holds_spec _) (by repeat (first | exact .nil | (apply Part.cons; · (first | exact .head | exact .tail .head | exact .tail (.tail .head) | exact .tail (.tail (.tail .head)) | exact .tail (.tail (.tail (.tail .head))) | exact .tail (.tail (.tail (.tail (.tail .head)))) | exact .tail (.tail (.tail (.tail (.tail (.tail .head))))) | exact .tail (.tail (.tail (.tail (.tail (.tail (.tail .head))))))))))) ?_
  rintro _ _ ⟨_, ⟨rfl, rfl⟩, rfl⟩
  simp only [List.cons_append, List.nil_append]
  refine gl_v rfl (o_not rfl) ?_
  refine gl_nil ?_
  refine ge_then ?_
  refine g_cond rfl (fun hc1 => ?_) (fun hc1 => ?_)
  ·
    first | replace hc1 := of_decide_eq_true hc1 | replace hc1 := lt_f hc1 | replace hc1 := le_f hc1 | replace hc1 := dec_f hc1 | replace hc1 := nlt_t hc1 | replace hc1 := nle_t hc1 | replace hc1 := ndec_t hc1 | replace hc1 := ndec_f hc1 | replace hc1 := nn_t hc1 | replace hc1 := nn_f hc1 | skip
    have hh : hl (wh r id) = false := by simpa [hl] using hc1
    refine g_seq ?_
    refine g_region ?_
    refine gl_v rfl (o_assign rfl) ?_
    refine gl_nil ?_
    refine ge_then ?_
    refine g_ret ?_
    refine ge_then_ret ?_
    refine ret1 (.inl rfl) rfl rfl [ledger p (fromR r id j)] (⟨by simp [fromE, hh], rfl⟩) (ledger_close mb a c cs hL (by simp [fromR, hh]) (To.sat (by repeat (first | exact .nil | exact .done .refl | (apply To.cons; · (first | exact .head | exact .tail .head | exact .tail (.tail .head) | exact .tail (.tail (.tail .head)) | exact .tail (.tail (.tail (.tail .head))) | exact .tail (.tail (.tail (.tail (.tail .head)))) | exact .tail (.tail (.tail (.tail (.tail (.tail .head))))) | exact .tail (.tail (.tail (.tail (.tail (.tail (.tail .head)))))))) | exact .done (by repeat (first | exact .refl | apply Drop.skip))))))
  ·
    first | replace hc1 := of_decide_eq_true hc1 | replace hc1 := lt_f hc1 | replace hc1 := le_f hc1 | replace hc1 := dec_f hc1 | replace hc1 := nlt_t hc1 | replace hc1 := nle_t hc1 | replace hc1 := ndec_t hc1 | replace hc1 := ndec_f hc1 | replace hc1 := nn_t hc1 | replace hc1 := nn_f hc1 | skip
    have hh : hl (wh r id) = true := by simpa [hl] using hc1
    obtain ⟨k, hk⟩ : ∃ k : Nat, wh r id = k := ⟨(wh r id).toNat, by rw [hl_iff] at hh; omega⟩
    have hk6 : 1 ≤ k ∧ k ≤ 6 := by rw [hl_iff] at hh; omega
    have hm := mget_of_hl (r := r) (id := id) (by omega)
    refine g_skip ?_
    refine ge_then ?_
    refine g_seq ?_
    refine g_region ?_
    refine gl_v rfl (o_move rfl) ?_
    refine gl_v rfl (o_move rfl) ?_
    refine gl_v rfl (o_move rfl) ?_
    refine gl_c rfl (o_call rfl (move_spec p mb _ cs r id k j hL.len hk (by omega) hj) (by repeat (first | exact .nil | (apply Part.cons; · (first | exact .head | exact .tail .head | exact .tail (.tail .head) | exact .tail (.tail (.tail .head)) | exact .tail (.tail (.tail (.tail .head))) | exact .tail (.tail (.tail (.tail (.tail .head)))) | exact .tail (.tail (.tail (.tail (.tail (.tail .head))))) | exact .tail (.tail (.tail (.tail (.tail (.tail (.tail .head))))))))))) ?_
    rintro _ _ ⟨_, ⟨rfl, rfl⟩, rfl⟩
    simp only [List.cons_append, List.nil_append]
    refine gl_nil ?_
    refine ge_then ?_
    refine g_seq ?_
    refine g_region ?_
    refine gl_v rfl (o_assign rfl) ?_
    refine gl_nil ?_
    refine ge_then ?_
    refine g_ret ?_
    refine ret1 (.inl rfl) rfl rfl [ledger p (fromR r id j)] (⟨by simp [fromE, hh], rfl⟩) (ledger_close mb a c _ (hL.move (id := id) (by rw [hm, hk]) hk6.1 (by omega) hj1 hj hr) (by simp [fromR, hh]) (by rw [put_fst hm, mput_len hm]; exact (To.sat (by repeat (first | exact .nil | exact .done .refl | (apply To.cons; · (first | exact .head | exact .tail .head | exact .tail (.tail .head) | exact .tail (.tail (.tail .head)) | exact .tail (.tail (.tail (.tail .head))) | exact .tail (.tail (.tail (.tail (.tail .head)))) | exact .tail (.tail (.tail (.tail (.tail (.tail .head))))) | exact .tail (.tail (.tail (.tail (.tail (.tail (.tail .head)))))))) | exact .done (by repeat (first | exact .refl | apply Drop.skip)))))))

theorem Move_spec (p : Nat) (r : List (Int × Int)) (id w : Int) (hr : r.length ≤ 1000000) :
    FnS Try.prog 19 [ptr p 0, U64 id, I64 w] [ledger p r] (fun u Bs => u = I64 (movE r id w) ∧ Bs = [ledger p (movR r id w)]) := by
  refine fn_body Try.func19 rfl rfl rfl ?_
  intro W0 R
  simp only [List.zipIdx_cons, List.zipIdx_nil, List.map_cons, List.map_nil, Nat.zero_add, Nat.reduceAdd, List.cons_append, List.nil_append]
  refine g_seq ?_
  refine g_region ?_
  refine gl_v rfl (o_assign rfl) ?_
  refine gl_nil ?_
  refine ge_then ?_
  refine g_seq ?_
  refine g_seq ?_
  refine g_region ?_
  refine gl_v rfl (o_move rfl) ?_
  refine gl_c rfl (o_call rfl (holds_spec _) (by repeat (first | exact .nil | (apply Part.cons; · (first | exact .head | exact .tail .head | exact .tail (.tail .head) | exact .tail (.tail (.tail .head)) | exact .tail (.tail (.tail (.tail .head))) | exact .tail (.tail (.tail (.tail (.tail .head)))) | exact .tail (.tail (.tail (.tail (.tail (.tail .head))))) | exact .tail (.tail (.tail (.tail (.tail (.tail (.tail .head))))))))))) ?_
  rintro _ _ ⟨_, ⟨rfl, rfl⟩, rfl⟩
  simp only [List.cons_append, List.nil_append]
  refine gl_v rfl (o_not rfl) ?_
  refine gl_nil ?_
  refine ge_then ?_
  refine g_cond rfl (fun hc1 => ?_) (fun hc1 => ?_)
  ·
    first | replace hc1 := of_decide_eq_true hc1 | replace hc1 := lt_f hc1 | replace hc1 := le_f hc1 | replace hc1 := dec_f hc1 | replace hc1 := nlt_t hc1 | replace hc1 := nle_t hc1 | replace hc1 := ndec_t hc1 | replace hc1 := ndec_f hc1 | replace hc1 := nn_t hc1 | replace hc1 := nn_f hc1 | skip
    have hh : hl w = false := by simpa [hl] using hc1
    refine g_seq ?_
    refine g_region ?_
    refine gl_v rfl (o_assign rfl) ?_
    refine gl_nil ?_
    refine ge_then ?_
    refine g_ret ?_
    refine ge_then_ret ?_
    refine ret1 (.inl rfl) rfl rfl _ (by rw [show movR r id w = r by simp [movR, hh]]; exact ⟨by simp [movE, hh], rfl⟩) (To.sat (by repeat (first | exact .nil | exact .done .refl | (apply To.cons; · (first | exact .head | exact .tail .head | exact .tail (.tail .head) | exact .tail (.tail (.tail .head)) | exact .tail (.tail (.tail (.tail .head))) | exact .tail (.tail (.tail (.tail (.tail .head)))) | exact .tail (.tail (.tail (.tail (.tail (.tail .head))))) | exact .tail (.tail (.tail (.tail (.tail (.tail (.tail .head)))))))) | exact .done (by repeat (first | exact .refl | apply Drop.skip)))))
  ·
    first | replace hc1 := of_decide_eq_true hc1 | replace hc1 := lt_f hc1 | replace hc1 := le_f hc1 | replace hc1 := dec_f hc1 | replace hc1 := nlt_t hc1 | replace hc1 := nle_t hc1 | replace hc1 := ndec_t hc1 | replace hc1 := ndec_f hc1 | replace hc1 := nn_t hc1 | replace hc1 := nn_f hc1 | skip
    have hh : hl w = true := by simpa [hl] using hc1
    obtain ⟨j, rfl⟩ : ∃ k : Nat, w = k := ⟨w.toNat, by rw [hl_iff] at hh; omega⟩
    have hj6 : 1 ≤ j ∧ j ≤ 6 := by rw [hl_iff] at hh; omega
    refine g_skip ?_
    refine ge_then ?_
    refine g_seq ?_
    refine g_region ?_
    refine gl_v rfl (o_move rfl) ?_
    refine gl_v rfl (o_move rfl) ?_
    refine gl_v rfl (o_move rfl) ?_
    refine gl_c rfl (o_call rfl (from_spec p r id j hr hj6.1 (by omega)) (by repeat (first | exact .nil | (apply Part.cons; · (first | exact .head | exact .tail .head | exact .tail (.tail .head) | exact .tail (.tail (.tail .head)) | exact .tail (.tail (.tail (.tail .head))) | exact .tail (.tail (.tail (.tail (.tail .head)))) | exact .tail (.tail (.tail (.tail (.tail (.tail .head))))) | exact .tail (.tail (.tail (.tail (.tail (.tail (.tail .head))))))))))) ?_
    rintro _ _ ⟨_, ⟨rfl, rfl⟩, rfl⟩
    simp only [List.cons_append, List.nil_append]
    refine gl_v rfl (o_assign rfl) ?_
    refine gl_nil ?_
    refine ge_then ?_
    refine g_ret ?_
    refine ret1 (.inl rfl) rfl rfl _ (by rw [show movR r id j = fromR r id j by simp [movR, hh]]; exact ⟨by simp [movE, hh], rfl⟩) (To.sat (by repeat (first | exact .nil | exact .done .refl | (apply To.cons; · (first | exact .head | exact .tail .head | exact .tail (.tail .head) | exact .tail (.tail (.tail .head)) | exact .tail (.tail (.tail (.tail .head))) | exact .tail (.tail (.tail (.tail (.tail .head)))) | exact .tail (.tail (.tail (.tail (.tail (.tail .head))))) | exact .tail (.tail (.tail (.tail (.tail (.tail (.tail .head)))))))) | exact .done (by repeat (first | exact .refl | apply Drop.skip)))))

theorem Start_spec (p : Nat) (r : List (Int × Int)) (id : Int) (hr : r.length ≤ 1000000) :
    FnS Try.prog 20 [ptr p 0, U64 id] [ledger p r] (fun u Bs => u = I64 (fromE r id) ∧ Bs = [ledger p (fromR r id 7)]) := by
  refine fn_body Try.func20 rfl rfl rfl ?_
  intro W0 R
  simp only [List.zipIdx_cons, List.zipIdx_nil, List.map_cons, List.map_nil, Nat.zero_add, Nat.reduceAdd, List.cons_append, List.nil_append]
  refine g_seq ?_
  refine g_region ?_
  refine gl_v rfl (o_assign rfl) ?_
  refine gl_nil ?_
  refine ge_then ?_
  refine g_seq ?_
  refine g_region ?_
  refine gl_v rfl (o_move rfl) ?_
  refine gl_v rfl (o_move rfl) ?_
  refine gl_c rfl (o_call rfl (from_spec p r id 7 hr (by omega) (by omega)) (by repeat (first | exact .nil | (apply Part.cons; · (first | exact .head | exact .tail .head | exact .tail (.tail .head) | exact .tail (.tail (.tail .head)) | exact .tail (.tail (.tail (.tail .head))) | exact .tail (.tail (.tail (.tail (.tail .head)))) | exact .tail (.tail (.tail (.tail (.tail (.tail .head))))) | exact .tail (.tail (.tail (.tail (.tail (.tail (.tail .head))))))))))) ?_
  rintro _ _ ⟨_, ⟨rfl, rfl⟩, rfl⟩
  simp only [List.cons_append, List.nil_append]
  refine gl_v rfl (o_assign rfl) ?_
  refine gl_nil ?_
  refine ge_then ?_
  refine g_ret ?_
  refine ret1 (.inl rfl) rfl rfl _ (⟨rfl, rfl⟩) (To.sat (by repeat (first | exact .nil | exact .done .refl | (apply To.cons; · (first | exact .head | exact .tail .head | exact .tail (.tail .head) | exact .tail (.tail (.tail .head)) | exact .tail (.tail (.tail (.tail .head))) | exact .tail (.tail (.tail (.tail (.tail .head)))) | exact .tail (.tail (.tail (.tail (.tail (.tail .head))))) | exact .tail (.tail (.tail (.tail (.tail (.tail (.tail .head)))))))) | exact .done (by repeat (first | exact .refl | apply Drop.skip)))))

theorem Kill_spec (p : Nat) (r : List (Int × Int)) (id : Int) (hr : r.length ≤ 1000000) :
    FnS Try.prog 21 [ptr p 0, U64 id] [ledger p r] (fun u Bs => u = I64 (fromE r id) ∧ Bs = [ledger p (fromR r id 8)]) := by
  refine fn_body Try.func21 rfl rfl rfl ?_
  intro W0 R
  simp only [List.zipIdx_cons, List.zipIdx_nil, List.map_cons, List.map_nil, Nat.zero_add, Nat.reduceAdd, List.cons_append, List.nil_append]
  refine g_seq ?_
  refine g_region ?_
  refine gl_v rfl (o_assign rfl) ?_
  refine gl_nil ?_
  refine ge_then ?_
  refine g_seq ?_
  refine g_region ?_
  refine gl_v rfl (o_move rfl) ?_
  refine gl_v rfl (o_move rfl) ?_
  refine gl_c rfl (o_call rfl (from_spec p r id 8 hr (by omega) (by omega)) (by repeat (first | exact .nil | (apply Part.cons; · (first | exact .head | exact .tail .head | exact .tail (.tail .head) | exact .tail (.tail (.tail .head)) | exact .tail (.tail (.tail (.tail .head))) | exact .tail (.tail (.tail (.tail (.tail .head)))) | exact .tail (.tail (.tail (.tail (.tail (.tail .head))))) | exact .tail (.tail (.tail (.tail (.tail (.tail (.tail .head))))))))))) ?_
  rintro _ _ ⟨_, ⟨rfl, rfl⟩, rfl⟩
  simp only [List.cons_append, List.nil_append]
  refine gl_v rfl (o_assign rfl) ?_
  refine gl_nil ?_
  refine ge_then ?_
  refine g_ret ?_
  refine ret1 (.inl rfl) rfl rfl _ (⟨rfl, rfl⟩) (To.sat (by repeat (first | exact .nil | exact .done .refl | (apply To.cons; · (first | exact .head | exact .tail .head | exact .tail (.tail .head) | exact .tail (.tail (.tail .head)) | exact .tail (.tail (.tail (.tail .head))) | exact .tail (.tail (.tail (.tail (.tail .head)))) | exact .tail (.tail (.tail (.tail (.tail (.tail .head))))) | exact .tail (.tail (.tail (.tail (.tail (.tail (.tail .head)))))))) | exact .done (by repeat (first | exact .refl | apply Drop.skip)))))

theorem Where_spec (p : Nat) (r : List (Int × Int)) (id : Int) :
    FnS Try.prog 10 [ptr p 0, U64 id] [ledger p r] (fun u Bs => u = I64 (wh r id) ∧ Bs = [ledger p r]) := by
  refine fn_body Try.func10 rfl rfl rfl ?_
  intro W0 R
  simp only [List.zipIdx_cons, List.zipIdx_nil, List.map_cons, List.map_nil, Nat.zero_add, Nat.reduceAdd, List.cons_append, List.nil_append]
  refine g_open (by first | exact .head | exact .tail .head | exact .tail (.tail .head) | exact .tail (.tail (.tail .head)) | exact .tail (.tail (.tail (.tail .head))) | exact .tail (.tail (.tail (.tail (.tail .head)))) | exact .tail (.tail (.tail (.tail (.tail (.tail .head))))) | exact .tail (.tail (.tail (.tail (.tail (.tail (.tail .head))))))) ?_
  rintro ⟨mb, ⟨a, c⟩, cs⟩ hL
  have hL : LOk r cs := hL
  simp only [List.cons_append, List.nil_append]
  refine g_seq ?_
  refine g_region ?_
  refine gl_v rfl (o_assign rfl) ?_
  refine gl_nil ?_
  refine ge_then ?_
  refine g_seq ?_
  refine g_region ?_
  refine gl_v rfl (o_move rfl) ?_
  refine gl_v rfl (o_nil rfl) ?_
  first | refine gl_v rfl (o_fldS rfl) ?_ | refine gl_v rfl (o_fld rfl) ?_
  first | refine gl_v rfl (o_load rfl rfl) ?_ | refine gl_v rfl (o_loadS rfl rfl) ?_
  refine gl_v rfl (o_move rfl) ?_
  refine gl_v rfl (o_lookupR _ (wh_look r id) rfl rfl) ?_
  refine gl_v rfl (o_assign rfl) ?_
  refine gl_nil ?_
  refine ge_then ?_
  refine g_ret ?_
  refine ret1 (.inl rfl) rfl rfl [ledger p r] (⟨rfl, rfl⟩) (ledger_close mb a c cs hL rfl (To.sat (by repeat (first | exact .nil | exact .done .refl | (apply To.cons; · (first | exact .head | exact .tail .head | exact .tail (.tail .head) | exact .tail (.tail (.tail .head)) | exact .tail (.tail (.tail (.tail .head))) | exact .tail (.tail (.tail (.tail (.tail .head)))) | exact .tail (.tail (.tail (.tail (.tail (.tail .head))))) | exact .tail (.tail (.tail (.tail (.tail (.tail (.tail .head)))))))) | exact .done (by repeat (first | exact .refl | apply Drop.skip))))))

theorem Count_spec (p : Nat) (r : List (Int × Int)) (w : Int) :
    FnS Try.prog 12 [ptr p 0, I64 w] [ledger p r] (fun u Bs => u = I64 (cntZ r w) ∧ Bs = [ledger p r]) := by
  refine fn_body Try.func12 rfl rfl rfl ?_
  intro W0 R
  simp only [List.zipIdx_cons, List.zipIdx_nil, List.map_cons, List.map_nil, Nat.zero_add, Nat.reduceAdd, List.cons_append, List.nil_append]
  refine g_open (by first | exact .head | exact .tail .head | exact .tail (.tail .head) | exact .tail (.tail (.tail .head)) | exact .tail (.tail (.tail (.tail .head))) | exact .tail (.tail (.tail (.tail (.tail .head)))) | exact .tail (.tail (.tail (.tail (.tail (.tail .head))))) | exact .tail (.tail (.tail (.tail (.tail (.tail (.tail .head))))))) ?_
  rintro ⟨mb, ⟨a, c⟩, cs⟩ hL
  have hL : LOk r cs := hL
  simp only [List.cons_append, List.nil_append]
  refine g_seq ?_
  refine g_region ?_
  refine gl_v rfl (o_assign rfl) ?_
  refine gl_nil ?_
  refine ge_then ?_
  refine g_seq ?_
  refine g_seq ?_
  refine g_region ?_
  refine gl_v rfl (o_move rfl) ?_
  refine gl_v rfl (o_lss rfl rfl) ?_
  refine gl_v rfl (o_move rfl) ?_
  refine gl_g rfl rfl (fun hc1 => ?_) (fun hc1 => ?_) rfl
  ·
    have hc1' := hc1
    first | replace hc1' := of_decide_eq_true hc1' | replace hc1' := lt_f hc1' | replace hc1' := le_f hc1' | replace hc1' := dec_f hc1' | replace hc1' := nlt_t hc1' | replace hc1' := nle_t hc1' | replace hc1' := ndec_t hc1' | replace hc1' := ndec_f hc1' | replace hc1' := nn_t hc1' | replace hc1' := nn_f hc1' | skip
    refine gl_v rfl (o_move rfl) ?_
    refine gl_gT rfl rfl hc1 ?_
    refine gl_v rfl (o_gtr rfl rfl) ?_
    refine gl_v rfl (o_pickF hc1 rfl rfl) ?_
    refine gl_nil ?_
    refine ge_then ?_
    refine g_cond rfl (fun hc2 => ?_) (fun hc2 => ?_)
    ·
      first | replace hc2 := of_decide_eq_true hc2 | replace hc2 := lt_f hc2 | replace hc2 := le_f hc2 | replace hc2 := dec_f hc2 | replace hc2 := nlt_t hc2 | replace hc2 := nle_t hc2 | replace hc2 := ndec_t hc2 | replace hc2 := ndec_f hc2 | replace hc2 := nn_t hc2 | replace hc2 := nn_f hc2 | skip
      refine g_seq ?_
      refine g_region ?_
      refine gl_v rfl (o_assign rfl) ?_
      refine gl_nil ?_
      refine ge_then ?_
      refine g_ret ?_
      refine ge_then_ret ?_
      refine ret1 (.inl rfl) rfl rfl [ledger p r] (⟨by unfold cntZ; rw [if_pos (by omega)], rfl⟩) (ledger_close mb a c cs hL rfl (To.sat (by repeat (first | exact .nil | exact .done .refl | (apply To.cons; · (first | exact .head | exact .tail .head | exact .tail (.tail .head) | exact .tail (.tail (.tail .head)) | exact .tail (.tail (.tail (.tail .head))) | exact .tail (.tail (.tail (.tail (.tail .head)))) | exact .tail (.tail (.tail (.tail (.tail (.tail .head))))) | exact .tail (.tail (.tail (.tail (.tail (.tail (.tail .head)))))))) | exact .done (by repeat (first | exact .refl | apply Drop.skip))))))
    ·
      first | replace hc2 := of_decide_eq_true hc2 | replace hc2 := lt_f hc2 | replace hc2 := le_f hc2 | replace hc2 := dec_f hc2 | replace hc2 := nlt_t hc2 | replace hc2 := nle_t hc2 | replace hc2 := ndec_t hc2 | replace hc2 := ndec_f hc2 | replace hc2 := nn_t hc2 | replace hc2 := nn_f hc2 | skip
      refine g_skip ?_
      refine ge_then ?_
      refine g_seq ?_
      obtain ⟨k, rfl⟩ : ∃ k : Nat, w = k := ⟨w.toNat, by omega⟩
      refine g_region ?_
      refine gl_v rfl (o_move rfl) ?_
      refine gl_v rfl (o_move rfl) ?_
      refine gl_v rfl (o_nil rfl) ?_
      first | refine gl_v rfl (o_fldS rfl) ?_ | refine gl_v rfl (o_fld rfl) ?_
      refine gl_v rfl (o_idxA rfl rfl (by omega)) ?_
      refine gl_v rfl (o_load rfl (cs_get _ _ _ _ (by rw [hL.len]; omega))) ?_
      refine gl_v rfl (o_assign rfl) ?_
      refine gl_nil ?_
      refine ge_then ?_
      refine g_ret ?_
      refine ret1 (.inl rfl) rfl rfl [ledger p r] (⟨by unfold cntZ; rw [if_neg (by omega), ← hL.cnt k (by omega) (by omega)], rfl⟩) (ledger_close mb a c cs hL rfl (To.sat (by repeat (first | exact .nil | exact .done .refl | (apply To.cons; · (first | exact .head | exact .tail .head | exact .tail (.tail .head) | exact .tail (.tail (.tail .head)) | exact .tail (.tail (.tail (.tail .head))) | exact .tail (.tail (.tail (.tail (.tail .head)))) | exact .tail (.tail (.tail (.tail (.tail (.tail .head))))) | exact .tail (.tail (.tail (.tail (.tail (.tail (.tail .head)))))))) | exact .done (by repeat (first | exact .refl | apply Drop.skip))))))
  ·
    have hc1' := hc1
    first | replace hc1' := of_decide_eq_true hc1' | replace hc1' := lt_f hc1' | replace hc1' := le_f hc1' | replace hc1' := dec_f hc1' | replace hc1' := nlt_t hc1' | replace hc1' := nle_t hc1' | replace hc1' := ndec_t hc1' | replace hc1' := ndec_f hc1' | replace hc1' := nn_t hc1' | replace hc1' := nn_f hc1' | skip
    simp only [putO]
    refine gl_gF rfl rfl hc1 rfl ?_
    refine gl_v rfl (o_pickT hc1 rfl rfl) ?_
    refine gl_nil ?_
    refine ge_then ?_
    refine g_cond_true rfl ?_
    refine g_seq ?_
    refine g_region ?_
    refine gl_v rfl (o_assign rfl) ?_
    refine gl_nil ?_
    refine ge_then ?_
    refine g_ret ?_
    refine ge_then_ret ?_
    refine ret1 (.inl rfl) rfl rfl [ledger p r] (⟨by unfold cntZ; rw [if_pos (by omega)], rfl⟩) (ledger_close mb a c cs hL rfl (To.sat (by repeat (first | exact .nil | exact .done .refl | (apply To.cons; · (first | exact .head | exact .tail .head | exact .tail (.tail .head) | exact .tail (.tail (.tail .head)) | exact .tail (.tail (.tail (.tail .head))) | exact .tail (.tail (.tail (.tail (.tail .head)))) | exact .tail (.tail (.tail (.tail (.tail (.tail .head))))) | exact .tail (.tail (.tail (.tail (.tail (.tail (.tail .head)))))))) | exact .done (by repeat (first | exact .refl | apply Drop.skip))))))

theorem Accept_spec (p : Nat) (r : List (Int × Int)) (id w : Int) (hr : r.length ≤ 1000000) (hk : ROk r) :
    FnS Try.prog 18 [ptr p 0, U64 id, I64 w] [ledger p r] (fun u Bs => u = I64 (accE r id w) ∧ Bs = [ledger p (accR r id w)]) := by
  refine fn_body Try.func18 rfl rfl rfl ?_
  intro W0 R
  simp only [List.zipIdx_cons, List.zipIdx_nil, List.map_cons, List.map_nil, Nat.zero_add, Nat.reduceAdd, List.cons_append, List.nil_append]
  refine g_open (by first | exact .head | exact .tail .head | exact .tail (.tail .head) | exact .tail (.tail (.tail .head)) | exact .tail (.tail (.tail (.tail .head))) | exact .tail (.tail (.tail (.tail (.tail .head)))) | exact .tail (.tail (.tail (.tail (.tail (.tail .head))))) | exact .tail (.tail (.tail (.tail (.tail (.tail (.tail .head))))))) ?_
  rintro ⟨mb, ⟨a, c⟩, cs⟩ hL
  have hL : LOk r cs := hL
  simp only [List.cons_append, List.nil_append]
  refine g_seq ?_
  refine g_region ?_
  refine gl_v rfl (o_assign rfl) ?_
  refine gl_nil ?_
  refine ge_then ?_
  refine g_seq ?_
  refine g_block ?_
  refine g_seq ?_
  refine g_region ?_
  refine gl_v rfl (o_move rfl) ?_
  refine gl_c rfl (o_call rfl (holds_spec _) (by repeat (first | exact .nil | (apply Part.cons; · (first | exact .head | exact .tail .head | exact .tail (.tail .head) | exact .tail (.tail (.tail .head)) | exact .tail (.tail (.tail (.tail .head))) | exact .tail (.tail (.tail (.tail (.tail .head)))) | exact .tail (.tail (.tail (.tail (.tail (.tail .head))))) | exact .tail (.tail (.tail (.tail (.tail (.tail (.tail .head))))))))))) ?_
  rintro _ _ ⟨_, ⟨rfl, rfl⟩, rfl⟩
  simp only [List.cons_append, List.nil_append]
  refine gl_v rfl (o_not rfl) ?_
  refine gl_v rfl (o_assign rfl) ?_
  refine gl_nil ?_
  refine ge_then ?_
  refine g_cond rfl (fun hc1 => ?_) (fun hc1 => ?_)
  ·
    first | replace hc1 := of_decide_eq_true hc1 | replace hc1 := lt_f hc1 | replace hc1 := le_f hc1 | replace hc1 := dec_f hc1 | replace hc1 := nlt_t hc1 | replace hc1 := nle_t hc1 | replace hc1 := ndec_t hc1 | replace hc1 := ndec_f hc1 | replace hc1 := nn_t hc1 | replace hc1 := nn_f hc1 | skip
    have hh : hl w = false := by simpa [hl] using hc1
    refine g_seq ?_
    refine g_region ?_
    refine gl_v rfl (o_assign rfl) ?_
    refine gl_nil ?_
    refine ge_then ?_
    refine g_ret ?_
    refine ge_block_ret ?_
    refine ge_then_ret ?_
    refine ret1 (.inl rfl) rfl rfl [ledger p (accR r id w)] (⟨by simp [accE, hh], rfl⟩) (ledger_close mb a c cs hL (by simp [accR, hh]) (To.sat (by repeat (first | exact .nil | exact .done .refl | (apply To.cons; · (first | exact .head | exact .tail .head | exact .tail (.tail .head) | exact .tail (.tail (.tail .head)) | exact .tail (.tail (.tail (.tail .head))) | exact .tail (.tail (.tail (.tail (.tail .head)))) | exact .tail (.tail (.tail (.tail (.tail (.tail .head))))) | exact .tail (.tail (.tail (.tail (.tail (.tail (.tail .head)))))))) | exact .done (by repeat (first | exact .refl | apply Drop.skip))))))
  ·
    first | replace hc1 := of_decide_eq_true hc1 | replace hc1 := lt_f hc1 | replace hc1 := le_f hc1 | replace hc1 := dec_f hc1 | replace hc1 := nlt_t hc1 | replace hc1 := nle_t hc1 | replace hc1 := ndec_t hc1 | replace hc1 := ndec_f hc1 | replace hc1 := nn_t hc1 | replace hc1 := nn_f hc1 | skip
    have hh : hl w = true := by simpa [hl] using hc1
    refine g_seq ?_
    refine g_region ?_
    refine gl_v rfl (o_move rfl) ?_
    refine gl_v rfl (o_nil rfl) ?_
    first | refine gl_v rfl (o_fldS rfl) ?_ | refine gl_v rfl (o_fld rfl) ?_
    first | refine gl_v rfl (o_load rfl rfl) ?_ | refine gl_v rfl (o_loadS rfl rfl) ?_
    refine gl_v rfl (o_move rfl) ?_
    refine gl_v rfl (o_lookupR _ (wh_look r id) rfl rfl) ?_
    refine gl_v rfl (o_neq rfl rfl) ?_
    refine gl_v rfl (o_assign rfl) ?_
    refine gl_nil ?_
    refine ge_then ?_
    refine g_cond rfl (fun hc2 => ?_) (fun hc2 => ?_)
    ·
      first | replace hc2 := of_decide_eq_true hc2 | replace hc2 := lt_f hc2 | replace hc2 := le_f hc2 | replace hc2 := dec_f hc2 | replace hc2 := nlt_t hc2 | replace hc2 := nle_t hc2 | replace hc2 := ndec_t hc2 | replace hc2 := ndec_f hc2 | replace hc2 := nn_t hc2 | replace hc2 := nn_f hc2 | skip
      refine g_seq ?_
      refine g_region ?_
      refine gl_v rfl (o_assign rfl) ?_
      refine gl_nil ?_
      refine ge_then ?_
      refine g_ret ?_
      refine ge_block_ret ?_
      refine ge_then_ret ?_
      refine ret1 (.inl rfl) rfl rfl [ledger p (accR r id w)] (⟨by simp [accE, hh, hc2], rfl⟩) (ledger_close mb a c cs hL (by simp [accR, hc2]) (To.sat (by repeat (first | exact .nil | exact .done .refl | (apply To.cons; · (first | exact .head | exact .tail .head | exact .tail (.tail .head) | exact .tail (.tail (.tail .head)) | exact .tail (.tail (.tail (.tail .head))) | exact .tail (.tail (.tail (.tail (.tail .head)))) | exact .tail (.tail (.tail (.tail (.tail (.tail .head))))) | exact .tail (.tail (.tail (.tail (.tail (.tail (.tail .head)))))))) | exact .done (by repeat (first | exact .refl | apply Drop.skip))))))
    ·
      first | replace hc2 := of_decide_eq_true hc2 | replace hc2 := lt_f hc2 | replace hc2 := le_f hc2 | replace hc2 := dec_f hc2 | replace hc2 := nlt_t hc2 | replace hc2 := nle_t hc2 | replace hc2 := ndec_t hc2 | replace hc2 := ndec_f hc2 | replace hc2 := nn_t hc2 | replace hc2 := nn_f hc2 | skip
      have hm : mget r id = none := hk.wh0.1 hc2
      obtain ⟨j, rfl⟩ : ∃ k : Nat, w = k := ⟨w.toNat, by rw [hl_iff] at hh; omega⟩
      have hj6 : 1 ≤ j ∧ j ≤ 6 := by rw [hl_iff] at hh; omega
      refine g_skip ?_
      refine ge_block ?_
      refine ge_then ?_
      refine g_seq ?_
      refine g_region ?_
      refine gl_v rfl (o_move rfl) ?_
      refine gl_v rfl (o_move rfl) ?_
      refine gl_v rfl (o_move rfl) ?_
      refine gl_c rfl (o_call rfl (move_spec p mb _ cs r id 0 j hL.len hc2 (by omega) (by omega)) (by repeat (first | exact .nil | (apply Part.cons; · (first | exact .head | exact .tail .head | exact .tail (.tail .head) | exact .tail (.tail (.tail .head)) | exact .tail (.tail (.tail (.tail .head))) | exact .tail (.tail (.tail (.tail (.tail .head)))) | exact .tail (.tail (.tail (.tail (.tail (.tail .head))))) | exact .tail (.tail (.tail (.tail (.tail (.tail (.tail .head))))))))))) ?_
      rintro _ _ ⟨_, ⟨rfl, rfl⟩, rfl⟩
      simp only [List.cons_append, List.nil_append]
      refine gl_nil ?_
      refine ge_then ?_
      refine g_seq ?_
      refine g_region ?_
      refine gl_v rfl (o_move rfl) ?_
      refine gl_v rfl (o_move rfl) ?_
      refine gl_v rfl (o_nil rfl) ?_
      first | refine gl_v rfl (o_fldS rfl) ?_ | refine gl_v rfl (o_fld rfl) ?_
      first | refine gl_v rfl (o_load rfl rfl) ?_ | refine gl_v rfl (o_loadS rfl rfl) ?_
      refine gl_v rfl (o_move rfl) ?_
      first | refine gl_n rfl (o_buildS1 rfl rfl rfl) ?_ | refine gl_n rfl (o_buildS1A rfl rfl rfl rfl) ?_ | refine gl_n rfl (o_buildS rfl rfl rfl rfl) ?_
      rintro _ _ ⟨b29, rfl, rfl⟩
      refine gl_n rfl (o_append rfl rfl (by repeat (first | exact .nil | (apply Part.cons; · (first | exact .head | exact .tail .head | exact .tail (.tail .head) | exact .tail (.tail (.tail .head)) | exact .tail (.tail (.tail (.tail .head))) | exact .tail (.tail (.tail (.tail (.tail .head)))) | exact .tail (.tail (.tail (.tail (.tail (.tail .head))))) | exact .tail (.tail (.tail (.tail (.tail (.tail (.tail .head)))))))))) rfl rfl rfl (by omega) (by unfold maxLen; omega)) ?_
      rintro _ _ ⟨a30, c30, rfl, rfl⟩
      refine gl_v rfl (o_nil rfl) ?_
      first | refine gl_v rfl (o_fldS rfl) ?_ | refine gl_v rfl (o_fld rfl) ?_
      first | refine gl_u (o_store rfl rfl rfl rfl) ?_ | refine gl_u (o_storeS rfl rfl rfl (by first | assumption | omega | simp)) ?_
      refine gl_nil ?_
      refine ge_then ?_
      refine g_seq ?_
      refine g_region ?_
      refine gl_v rfl (o_assign rfl) ?_
      refine gl_nil ?_
      refine ge_then ?_
      refine g_ret ?_
      refine ret1 (.inl rfl) rfl rfl [ledger p (accR r id j)] (⟨by simp [accE, hh, hc2], rfl⟩) (ledger_close mb a30 c30 _ (hL.accept (id := id) (j := j) hj6.1 (by omega) hr) (by simp [accR, hh, hc2]) (by rw [mput_none hm, List.map_append (f := fun q : Int × Int => U64 q.1), List.length_append]; exact (To.sat (by repeat (first | exact .nil | exact .done .refl | (apply To.cons; · (first | exact .head | exact .tail .head | exact .tail (.tail .head) | exact .tail (.tail (.tail .head)) | exact .tail (.tail (.tail (.tail .head))) | exact .tail (.tail (.tail (.tail (.tail .head)))) | exact .tail (.tail (.tail (.tail (.tail (.tail .head))))) | exact .tail (.tail (.tail (.tail (.tail (.tail (.tail .head)))))))) | exact .done (by repeat (first | exact .refl | apply Drop.skip)))))))

theorem New_spec : FnS Try.prog 8 [] [] (fun u Bs => ∃ p, u = ptr p 0 ∧ Bs = [ledger p []]) := by
  refine fn_body Try.func8 rfl rfl rfl ?_
  intro W0 R
  simp only [List.zipIdx_cons, List.zipIdx_nil, List.map_cons, List.map_nil, Nat.zero_add, Nat.reduceAdd, List.cons_append, List.nil_append]
  refine g_seq ?_
  refine g_region ?_
  refine gl_v rfl (o_assign rfl) ?_
  refine gl_nil ?_
  refine ge_then ?_
  refine g_seq ?_
  refine g_region ?_
  refine gl_n rfl (o_makeMap) ?_
  rintro _ _ ⟨mb, rfl, rfl⟩
  refine gl_v rfl (o_build rfl rfl) ?_
  refine gl_n rfl (o_boxA rfl) ?_
  rintro _ _ ⟨p, rfl, rfl⟩
  refine gl_v rfl (o_assign rfl) ?_
  refine gl_nil ?_
  refine ge_then ?_
  refine g_ret ?_
  refine ret1 (.inl rfl) rfl rfl [ledger p []] (⟨p, rfl, rfl⟩) (ledger_close mb none 0 [0, 0, 0, 0, 0, 0, 0, 0, 0] ⟨rfl, rfl, fun w h1 h2 => by match w, h1, h2 with | 1, _, _ | 2, _, _ | 3, _, _ | 4, _, _ | 5, _, _ | 6, _, _ | 7, _, _ | 8, _, _ => rfl⟩ rfl (fun h s => Sat.tail (fun h s => own_nil _ (mapI_new _ s)) s))

theorem rWhere_spec (a : Option Addr) (c : Nat) (r : List (Int × Int)) (id : Int) (hr : r.length ≤ 1000000) : FnS Try.prog 11 [.slice a r.length c, U64 id] [places (.slice a r.length c) r] (fun u Bs => u = I64 (wh r id) ∧ Bs = [places (.slice a r.length c) r]) := by
  refine fn_body Try.func11 rfl rfl rfl ?_
  intro W0 R
  simp only [List.zipIdx_cons, List.zipIdx_nil, List.map_cons, List.map_nil, Nat.zero_add, Nat.reduceAdd, List.cons_append, List.nil_append]
  refine g_seq ?_
  refine g_region ?_
  refine gl_v rfl (o_assign rfl) ?_
  refine gl_nil ?_
  refine ge_then ?_
  refine g_seq ?_
  refine g_seq ?_
  refine g_region ?_
  refine gl_v rfl (o_assign rfl) ?_
  refine gl_nil ?_
  refine ge_then ?_
  refine g_block ?_
  refine g_loop (ι := Nat) (fun k => k ≤ r.length ∧ wh r id = wh (r.drop k) id) (fun k => [(5, I64 k), (0, .slice a r.length c), (1, U64 id)]) (fun _ => places (.slice a r.length c) r :: R) (fun k => r.length - k) 0 (⟨Nat.zero_le _, rfl⟩) (Keep.cons rfl (Keep.cons rfl (Keep.cons rfl (Keep.nil)))) (To.sat (by repeat (first | exact .nil | exact .done .refl | (apply To.cons; · (first | exact .head | exact .tail .head | exact .tail (.tail .head) | exact .tail (.tail (.tail .head)) | exact .tail (.tail (.tail (.tail .head))) | exact .tail (.tail (.tail (.tail (.tail .head)))) | exact .tail (.tail (.tail (.tail (.tail (.tail .head))))) | exact .tail (.tail (.tail (.tail (.tail (.tail (.tail .head)))))))) | exact .done (by repeat (first | exact .refl | apply Drop.skip))))) ?_
  rintro k ⟨hk1, hk2⟩
  refine g_seq ?_
  refine g_seq ?_
  refine g_region ?_
  refine gl_v rfl (o_move rfl) ?_
  refine gl_v rfl (o_move rfl) ?_
  refine gl_v rfl (o_len rfl) ?_
  refine gl_v rfl (o_lss rfl rfl) ?_
  refine gl_nil ?_
  refine ge_then ?_
  refine g_cond rfl (fun hc1 => ?_) (fun hc1 => ?_)
  ·
    first | replace hc1 := of_decide_eq_true hc1 | replace hc1 := lt_f hc1 | replace hc1 := le_f hc1 | replace hc1 := dec_f hc1 | replace hc1 := nlt_t hc1 | replace hc1 := nle_t hc1 | replace hc1 := ndec_t hc1 | replace hc1 := ndec_f hc1 | replace hc1 := nn_t hc1 | replace hc1 := nn_f hc1 | skip
    obtain ⟨q, hq⟩ : ∃ q, r[k]? = some q := ⟨_, List.getElem?_eq_getElem (by omega)⟩
    refine g_skip ?_
    refine ge_then ?_
    refine g_seq ?_
    refine g_block ?_
    refine g_seq ?_
    refine g_region ?_
    refine gl_v rfl (o_move rfl) ?_
    refine gl_v rfl (o_move rfl) ?_
    refine gl_v rfl (o_idxS rfl rfl (by first | assumption | omega)) ?_
    first | refine gl_v rfl (o_fldS rfl) ?_ | refine gl_v rfl (o_fld rfl) ?_
    refine gl_v rfl (o_loadS rfl (pl_0 hq)) ?_
    refine gl_v rfl (o_move rfl) ?_
    refine gl_v rfl (o_eql rfl rfl) ?_
    refine gl_nil ?_
    refine ge_then ?_
    refine g_cond rfl (fun hc2 => ?_) (fun hc2 => ?_)
    ·
      first | replace hc2 := of_decide_eq_true hc2 | replace hc2 := lt_f hc2 | replace hc2 := le_f hc2 | replace hc2 := dec_f hc2 | replace hc2 := nlt_t hc2 | replace hc2 := nle_t hc2 | replace hc2 := ndec_t hc2 | replace hc2 := ndec_f hc2 | replace hc2 := nn_t hc2 | replace hc2 := nn_f hc2 | skip
      refine g_seq ?_
      refine g_region ?_
      refine gl_v rfl (o_move rfl) ?_
      refine gl_v rfl (o_move rfl) ?_
      refine gl_v rfl (o_idxS rfl rfl (by first | assumption | omega)) ?_
      first | refine gl_v rfl (o_fldS rfl) ?_ | refine gl_v rfl (o_fld rfl) ?_
      refine gl_v rfl (o_loadS rfl (pl_1 hq)) ?_
      refine gl_v rfl (o_assign rfl) ?_
      refine gl_nil ?_
      refine ge_then ?_
      refine g_ret ?_
      refine ge_block_ret ?_
      refine ge_then_ret ?_
      refine ge_then_ret ?_
      refine ge_block_ret ?_
      refine ge_then_ret ?_
      refine ret1 (.inl rfl) rfl rfl _ (⟨by rw [hk2, wh_hit hq hc2], rfl⟩) (To.sat (by repeat (first | exact .nil | exact .done .refl | (apply To.cons; · (first | exact .head | exact .tail .head | exact .tail (.tail .head) | exact .tail (.tail (.tail .head)) | exact .tail (.tail (.tail (.tail .head))) | exact .tail (.tail (.tail (.tail (.tail .head)))) | exact .tail (.tail (.tail (.tail (.tail (.tail .head))))) | exact .tail (.tail (.tail (.tail (.tail (.tail (.tail .head)))))))) | exact .done (by repeat (first | exact .refl | apply Drop.skip)))))
    ·
      first | replace hc2 := of_decide_eq_true hc2 | replace hc2 := lt_f hc2 | replace hc2 := le_f hc2 | replace hc2 := dec_f hc2 | replace hc2 := nlt_t hc2 | replace hc2 := nle_t hc2 | replace hc2 := ndec_t hc2 | replace hc2 := ndec_f hc2 | replace hc2 := nn_t hc2 | replace hc2 := nn_f hc2 | skip
      refine g_skip ?_
      refine ge_block ?_
      refine ge_then ?_
      refine g_region ?_
      refine gl_v rfl (o_move rfl) ?_
      refine gl_v rfl (o_addR _ (by first | exact wr_i64 (by omega) | rfl) rfl rfl) ?_
      refine gl_v rfl (o_assign rfl) ?_
      refine gl_nil ?_
      refine ge_round (k + 1) ⟨by omega, by rw [hk2]; exact wh_miss hq hc2⟩ (by omega) (Keep.cons rfl (Keep.cons rfl (Keep.cons rfl Keep.nil))) (To.sat (by repeat (first | exact .nil | exact .done .refl | (apply To.cons; · (first | exact .head | exact .tail .head | exact .tail (.tail .head) | exact .tail (.tail (.tail .head)) | exact .tail (.tail (.tail (.tail .head))) | exact .tail (.tail (.tail (.tail (.tail .head)))) | exact .tail (.tail (.tail (.tail (.tail (.tail .head))))) | exact .tail (.tail (.tail (.tail (.tail (.tail (.tail .head)))))))) | exact .done (by repeat (first | exact .refl | apply Drop.skip)))))
  ·
    first | replace hc1 := of_decide_eq_true hc1 | replace hc1 := lt_f hc1 | replace hc1 := le_f hc1 | replace hc1 := dec_f hc1 | replace hc1 := nlt_t hc1 | replace hc1 := nle_t hc1 | replace hc1 := ndec_t hc1 | replace hc1 := ndec_f hc1 | replace hc1 := nn_t hc1 | replace hc1 := nn_f hc1 | skip
    refine g_exit ?_
    refine ge_then_exit ?_
    refine ge_then_exit ?_
    refine ge_block_exit ?_
    refine ge_then ?_
    refine g_seq ?_
    refine g_region ?_
    refine gl_v rfl (o_assign rfl) ?_
    refine gl_nil ?_
    refine ge_then ?_
    refine g_ret ?_
    refine ret1 (.inl rfl) rfl rfl _ (⟨by rw [hk2, List.drop_of_length_le (by omega)]; rfl, rfl⟩) (To.sat (by repeat (first | exact .nil | exact .done .refl | (apply To.cons; · (first | exact .head | exact .tail .head | exact .tail (.tail .head) | exact .tail (.tail (.tail .head)) | exact .tail (.tail (.tail (.tail .head))) | exact .tail (.tail (.tail (.tail (.tail .head)))) | exact .tail (.tail (.tail (.tail (.tail (.tail .head))))) | exact .tail (.tail (.tail (.tail (.tail (.tail (.tail .head)))))))) | exact .done (by repeat (first | exact .refl | apply Drop.skip)))))

theorem rCount_spec (a : Option Addr) (c : Nat) (r : List (Int × Int)) (w : Int) (hr : r.length ≤ 1000000) : FnS Try.prog 13 [.slice a r.length c, I64 w] [places (.slice a r.length c) r] (fun u Bs => u = I64 (cnt r w) ∧ Bs = [places (.slice a r.length c) r]) := by
  refine fn_body Try.func13 rfl rfl rfl ?_
  intro W0 R
  simp only [List.zipIdx_cons, List.zipIdx_nil, List.map_cons, List.map_nil, Nat.zero_add, Nat.reduceAdd, List.cons_append, List.nil_append]
  refine g_seq ?_
  refine g_region ?_
  refine gl_v rfl (o_assign rfl) ?_
  refine gl_nil ?_
  refine ge_then ?_
  refine g_seq ?_
  refine g_region ?_
  refine gl_v rfl (o_assign rfl) ?_
  refine gl_nil ?_
  refine ge_then ?_
  refine g_seq ?_
  refine g_seq ?_
  refine g_region ?_
  refine gl_v rfl (o_assign rfl) ?_
  refine gl_nil ?_
  refine ge_then ?_
  refine g_block ?_
  refine g_loop (ι := Nat) (fun k => k ≤ r.length) (fun k => [(6, I64 k), (5, I64 (cnt (r.take k) w)), (0, .slice a r.length c), (1, I64 w)]) (fun _ => places (.slice a r.length c) r :: R) (fun k => r.length - k) 0 (Nat.zero_le _) (Keep.cons rfl (Keep.cons rfl (Keep.cons rfl (Keep.cons rfl (Keep.nil))))) (To.sat (by repeat (first | exact .nil | exact .done .refl | (apply To.cons; · (first | exact .head | exact .tail .head | exact .tail (.tail .head) | exact .tail (.tail (.tail .head)) | exact .tail (.tail (.tail (.tail .head))) | exact .tail (.tail (.tail (.tail (.tail .head)))) | exact .tail (.tail (.tail (.tail (.tail (.tail .head))))) | exact .tail (.tail (.tail (.tail (.tail (.tail (.tail .head)))))))) | exact .done (by repeat (first | exact .refl | apply Drop.skip))))) ?_
  intro k hk1
  have hcl : cnt (r.take k) w ≤ 1000000 := Nat.le_trans (cnt_le _ _) (by rw [List.length_take]; omega)
  refine g_seq ?_
  refine g_seq ?_
  refine g_region ?_
  refine gl_v rfl (o_move rfl) ?_
  refine gl_v rfl (o_move rfl) ?_
  refine gl_v rfl (o_len rfl) ?_
  refine gl_v rfl (o_lss rfl rfl) ?_
  refine gl_nil ?_
  refine ge_then ?_
  refine g_cond rfl (fun hc1 => ?_) (fun hc1 => ?_)
  ·
    first | replace hc1 := of_decide_eq_true hc1 | replace hc1 := lt_f hc1 | replace hc1 := le_f hc1 | replace hc1 := dec_f hc1 | replace hc1 := nlt_t hc1 | replace hc1 := nle_t hc1 | replace hc1 := ndec_t hc1 | replace hc1 := ndec_f hc1 | replace hc1 := nn_t hc1 | replace hc1 := nn_f hc1 | skip
    obtain ⟨q, hq⟩ : ∃ q, r[k]? = some q := ⟨_, List.getElem?_eq_getElem (by omega)⟩
    refine g_skip ?_
    refine ge_then ?_
    refine g_seq ?_
    refine g_block ?_
    refine g_seq ?_
    refine g_region ?_
    refine gl_v rfl (o_move rfl) ?_
    refine gl_v rfl (o_move rfl) ?_
    refine gl_v rfl (o_idxS rfl rfl (by first | assumption | omega)) ?_
    first | refine gl_v rfl (o_fldS rfl) ?_ | refine gl_v rfl (o_fld rfl) ?_
    refine gl_v rfl (o_loadS rfl (pl_1 hq)) ?_
    refine gl_v rfl (o_move rfl) ?_
    refine gl_v rfl (o_eql rfl rfl) ?_
    refine gl_nil ?_
    refine ge_then ?_
    refine g_cond rfl (fun hc2 => ?_) (fun hc2 => ?_)
    ·
      first | replace hc2 := of_decide_eq_true hc2 | replace hc2 := lt_f hc2 | replace hc2 := le_f hc2 | replace hc2 := dec_f hc2 | replace hc2 := nlt_t hc2 | replace hc2 := nle_t hc2 | replace hc2 := ndec_t hc2 | replace hc2 := ndec_f hc2 | replace hc2 := nn_t hc2 | replace hc2 := nn_f hc2 | skip
      refine g_region ?_
      refine gl_v rfl (o_move rfl) ?_
      refine gl_v rfl (o_addR _ (by first | exact wr_i64 (by omega) | rfl) rfl rfl) ?_
      refine gl_v rfl (o_assign rfl) ?_
      refine gl_nil ?_
      refine ge_block ?_
      refine ge_then ?_
      refine g_region ?_
      refine gl_v rfl (o_move rfl) ?_
      refine gl_v rfl (o_addR _ (by first | exact wr_i64 (by omega) | rfl) rfl rfl) ?_
      refine gl_v rfl (o_assign rfl) ?_
      refine gl_nil ?_
      have hct := cnt_take (w := w) hq
      refine ge_round (k + 1) (show k + 1 ≤ r.length by omega) (by omega) (Keep.cons rfl (Keep.cons (by rw [hct]; simp only [hc2, if_true, if_false, Nat.add_zero]; rfl) (Keep.cons rfl (Keep.cons rfl Keep.nil)))) (To.sat (by repeat (first | exact .nil | exact .done .refl | (apply To.cons; · (first | exact .head | exact .tail .head | exact .tail (.tail .head) | exact .tail (.tail (.tail .head)) | exact .tail (.tail (.tail (.tail .head))) | exact .tail (.tail (.tail (.tail (.tail .head)))) | exact .tail (.tail (.tail (.tail (.tail (.tail .head))))) | exact .tail (.tail (.tail (.tail (.tail (.tail (.tail .head)))))))) | exact .done (by repeat (first | exact .refl | apply Drop.skip)))))
    ·
      first | replace hc2 := of_decide_eq_true hc2 | replace hc2 := lt_f hc2 | replace hc2 := le_f hc2 | replace hc2 := dec_f hc2 | replace hc2 := nlt_t hc2 | replace hc2 := nle_t hc2 | replace hc2 := ndec_t hc2 | replace hc2 := ndec_f hc2 | replace hc2 := nn_t hc2 | replace hc2 := nn_f hc2 | skip
      refine g_skip ?_
      refine ge_block ?_
      refine ge_then ?_
      refine g_region ?_
      refine gl_v rfl (o_move rfl) ?_
      refine gl_v rfl (o_addR _ (by first | exact wr_i64 (by omega) | rfl) rfl rfl) ?_
      refine gl_v rfl (o_assign rfl) ?_
      refine gl_nil ?_
      have hct := cnt_take (w := w) hq
      refine ge_round (k + 1) (show k + 1 ≤ r.length by omega) (by omega) (Keep.cons rfl (Keep.cons (by rw [hct]; simp only [hc2, if_true, if_false, Nat.add_zero]; rfl) (Keep.cons rfl (Keep.cons rfl Keep.nil)))) (To.sat (by repeat (first | exact .nil | exact .done .refl | (apply To.cons; · (first | exact .head | exact .tail .head | exact .tail (.tail .head) | exact .tail (.tail (.tail .head)) | exact .tail (.tail (.tail (.tail .head))) | exact .tail (.tail (.tail (.tail (.tail .head)))) | exact .tail (.tail (.tail (.tail (.tail (.tail .head))))) | exact .tail (.tail (.tail (.tail (.tail (.tail (.tail .head)))))))) | exact .done (by repeat (first | exact .refl | apply Drop.skip)))))
  ·
    first | replace hc1 := of_decide_eq_true hc1 | replace hc1 := lt_f hc1 | replace hc1 := le_f hc1 | replace hc1 := dec_f hc1 | replace hc1 := nlt_t hc1 | replace hc1 := nle_t hc1 | replace hc1 := ndec_t hc1 | replace hc1 := ndec_f hc1 | replace hc1 := nn_t hc1 | replace hc1 := nn_f hc1 | skip
    refine g_exit ?_
    refine ge_then_exit ?_
    refine ge_then_exit ?_
    refine ge_block_exit ?_
    refine ge_then ?_
    refine g_seq ?_
    refine g_region ?_
    refine gl_v rfl (o_move rfl) ?_
    refine gl_v rfl (o_assign rfl) ?_
    refine gl_nil ?_
    refine ge_then ?_
    refine g_ret ?_
    refine ret1 (.inl rfl) rfl rfl _ (⟨by rw [List.take_of_length_le (by omega)], rfl⟩) (To.sat (by repeat (first | exact .nil | exact .done .refl | (apply To.cons; · (first | exact .head | exact .tail .head | exact .tail (.tail .head) | exact .tail (.tail (.tail .head)) | exact .tail (.tail (.tail (.tail .head))) | exact .tail (.tail (.tail (.tail (.tail .head)))) | exact .tail (.tail (.tail (.tail (.tail (.tail .head))))) | exact .tail (.tail (.tail (.tail (.tail (.tail (.tail .head)))))))) | exact .done (by repeat (first | exact .refl | apply Drop.skip)))))

theorem rwith_spec (a : Option Addr) (c : Nat) (r : List (Int × Int)) (id w : Int) (hr : r.length ≤ 1000000) : FnS Try.prog 29 [.slice a r.length c, U64 id, I64 w] [places (.slice a r.length c) r] (fun u Bs => ∃ a' c', u = .slice a' r.length c' ∧ Bs = [places (.slice a' r.length c') (wth r id w), places (.slice a r.length c) r]) := by
  refine fn_body Try.func29 rfl rfl rfl ?_
  intro W0 R
  simp only [List.zipIdx_cons, List.zipIdx_nil, List.map_cons, List.map_nil, Nat.zero_add, Nat.reduceAdd, List.cons_append, List.nil_append]
  refine g_seq ?_
  refine g_region ?_
  refine gl_v rfl (o_assign rfl) ?_
  refine gl_nil ?_
  refine ge_then ?_
  refine g_seq ?_
  refine g_region ?_
  refine gl_v rfl (o_assign rfl) ?_
  refine gl_nil ?_
  refine ge_then ?_
  refine g_seq ?_
  refine g_seq ?_
  refine g_imp (own_nil0 (e := 43) (sz := 2)) ?_
  refine g_region ?_
  refine gl_v rfl (o_assign rfl) ?_
  refine gl_nil ?_
  refine ge_then ?_
  refine g_block ?_
  refine g_loop (ι := Nat × Option Addr × Nat) (fun x => x.1 ≤ r.length) (fun x => [(8, I64 x.1), (7, .slice x.2.1 x.1 x.2.2), (0, .slice a r.length c), (1, U64 id), (2, I64 w)]) (fun x => own (.slice x.2.1 x.1 x.2.2) 43 2 x.1 (pl (wth (r.take x.1) id w)) :: places (.slice a r.length c) r :: R) (fun x => r.length - x.1) (0, none, 0) (Nat.zero_le _) (Keep.cons rfl (Keep.cons rfl (Keep.cons rfl (Keep.cons rfl (Keep.cons rfl (Keep.nil)))))) (To.sat (by repeat (first | exact .nil | exact .done .refl | (apply To.cons; · (first | exact .head | exact .tail .head | exact .tail (.tail .head) | exact .tail (.tail (.tail .head)) | exact .tail (.tail (.tail (.tail .head))) | exact .tail (.tail (.tail (.tail (.tail .head)))) | exact .tail (.tail (.tail (.tail (.tail (.tail .head))))) | exact .tail (.tail (.tail (.tail (.tail (.tail (.tail .head)))))))) | exact .done (by repeat (first | exact .refl | apply Drop.skip))))) ?_
  rintro ⟨k, a', c'⟩ hk1
  have hk1 : k ≤ r.length := hk1
  dsimp only
  refine g_seq ?_
  refine g_seq ?_
  refine g_region ?_
  refine gl_v rfl (o_move rfl) ?_
  refine gl_v rfl (o_move rfl) ?_
  refine gl_v rfl (o_len rfl) ?_
  refine gl_v rfl (o_lss rfl rfl) ?_
  refine gl_nil ?_
  refine ge_then ?_
  refine g_cond rfl (fun hc1 => ?_) (fun hc1 => ?_)
  ·
    first | replace hc1 := of_decide_eq_true hc1 | replace hc1 := lt_f hc1 | replace hc1 := le_f hc1 | replace hc1 := dec_f hc1 | replace hc1 := nlt_t hc1 | replace hc1 := nle_t hc1 | replace hc1 := ndec_t hc1 | replace hc1 := ndec_f hc1 | replace hc1 := nn_t hc1 | replace hc1 := nn_f hc1 | skip
    obtain ⟨q, hq⟩ : ∃ q, r[k]? = some q := ⟨_, List.getElem?_eq_getElem (by omega)⟩
    refine g_skip ?_
    refine ge_then ?_
    refine g_seq ?_
    refine g_block ?_
    refine g_seq ?_
    refine g_region ?_
    refine gl_v rfl (o_move rfl) ?_
    refine gl_v rfl (o_move rfl) ?_
    refine gl_v rfl (o_idxS rfl rfl (by first | assumption | omega)) ?_
    first | refine gl_v rfl (o_fldS rfl) ?_ | refine gl_v rfl (o_fld rfl) ?_
    refine gl_v rfl (o_loadS rfl (pl_0 hq)) ?_
    refine gl_v rfl (o_move rfl) ?_
    refine gl_v rfl (o_eql rfl rfl) ?_
    refine gl_nil ?_
    refine ge_then ?_
    refine g_cond rfl (fun hc2 => ?_) (fun hc2 => ?_)
    ·
      first | replace hc2 := of_decide_eq_true hc2 | replace hc2 := lt_f hc2 | replace hc2 := le_f hc2 | replace hc2 := dec_f hc2 | replace hc2 := nlt_t hc2 | replace hc2 := nle_t hc2 | replace hc2 := ndec_t hc2 | replace hc2 := ndec_f hc2 | replace hc2 := nn_t hc2 | replace hc2 := nn_f hc2 | skip
      refine g_region ?_
      refine gl_v rfl (o_move rfl) ?_
      refine gl_v rfl (o_move rfl) ?_
      refine gl_v rfl (o_move rfl) ?_
      refine gl_v rfl (o_build rfl rfl) ?_
      first | refine gl_n rfl (o_buildS1 rfl rfl rfl) ?_ | refine gl_n rfl (o_buildS1A rfl rfl rfl rfl) ?_ | refine gl_n rfl (o_buildS rfl rfl rfl rfl) ?_
      rintro _ _ ⟨b26, rfl, rfl⟩
      refine gl_n rfl (o_append rfl rfl (by repeat (first | exact .nil | (apply Part.cons; · (first | exact .head | exact .tail .head | exact .tail (.tail .head) | exact .tail (.tail (.tail .head)) | exact .tail (.tail (.tail (.tail .head))) | exact .tail (.tail (.tail (.tail (.tail .head)))) | exact .tail (.tail (.tail (.tail (.tail (.tail .head))))) | exact .tail (.tail (.tail (.tail (.tail (.tail (.tail .head)))))))))) rfl rfl rfl (by omega) (by unfold maxLen; omega)) ?_
      rintro _ _ ⟨a27, c27, rfl, rfl⟩
      refine gl_v rfl (o_assign rfl) ?_
      refine gl_nil ?_
      refine ge_block ?_
      refine ge_then ?_
      refine g_region ?_
      refine gl_v rfl (o_move rfl) ?_
      refine gl_v rfl (o_addR _ (by first | exact wr_i64 (by omega) | rfl) rfl rfl) ?_
      refine gl_v rfl (o_assign rfl) ?_
      refine gl_nil ?_
      have hsn := wth_snoc r k id w q hq
      rw [if_pos hc2] at hsn
      refine ge_round (k + 1, a27, c27) (show k + 1 ≤ r.length by omega) (by show r.length - (k + 1) < r.length - k; omega) (Keep.cons rfl (Keep.cons rfl (Keep.cons rfl (Keep.cons rfl (Keep.cons rfl Keep.nil))))) (by dsimp only; rw [hsn, pl_snoc]; exact (To.sat (by repeat (first | exact .nil | exact .done .refl | (apply To.cons; · (first | exact .head | exact .tail .head | exact .tail (.tail .head) | exact .tail (.tail (.tail .head)) | exact .tail (.tail (.tail (.tail .head))) | exact .tail (.tail (.tail (.tail (.tail .head)))) | exact .tail (.tail (.tail (.tail (.tail (.tail .head))))) | exact .tail (.tail (.tail (.tail (.tail (.tail (.tail .head)))))))) | exact .done (by repeat (first | exact .refl | apply Drop.skip))))))
    ·
      first | replace hc2 := of_decide_eq_true hc2 | replace hc2 := lt_f hc2 | replace hc2 := le_f hc2 | replace hc2 := dec_f hc2 | replace hc2 := nlt_t hc2 | replace hc2 := nle_t hc2 | replace hc2 := ndec_t hc2 | replace hc2 := ndec_f hc2 | replace hc2 := nn_t hc2 | replace hc2 := nn_f hc2 | skip
      refine g_region ?_
      refine gl_v rfl (o_move rfl) ?_
      refine gl_v rfl (o_move rfl) ?_
      refine gl_v rfl (o_move rfl) ?_
      refine gl_v rfl (o_idxS rfl rfl (by first | assumption | omega)) ?_
      refine gl_v rfl (o_loadSA rfl (pl_q hq) rfl) ?_
      first | refine gl_n rfl (o_buildS1 rfl rfl rfl) ?_ | refine gl_n rfl (o_buildS1A rfl rfl rfl rfl) ?_ | refine gl_n rfl (o_buildS rfl rfl rfl rfl) ?_
      rintro _ _ ⟨b33, rfl, rfl⟩
      refine gl_n rfl (o_append rfl rfl (by repeat (first | exact .nil | (apply Part.cons; · (first | exact .head | exact .tail .head | exact .tail (.tail .head) | exact .tail (.tail (.tail .head)) | exact .tail (.tail (.tail (.tail .head))) | exact .tail (.tail (.tail (.tail (.tail .head)))) | exact .tail (.tail (.tail (.tail (.tail (.tail .head))))) | exact .tail (.tail (.tail (.tail (.tail (.tail (.tail .head)))))))))) rfl rfl rfl (by omega) (by unfold maxLen; omega)) ?_
      rintro _ _ ⟨a34, c34, rfl, rfl⟩
      refine gl_v rfl (o_assign rfl) ?_
      refine gl_nil ?_
      refine ge_block ?_
      refine ge_then ?_
      refine g_region ?_
      refine gl_v rfl (o_move rfl) ?_
      refine gl_v rfl (o_addR _ (by first | exact wr_i64 (by omega) | rfl) rfl rfl) ?_
      refine gl_v rfl (o_assign rfl) ?_
      refine gl_nil ?_
      have hsn := wth_snoc r k id w q hq
      rw [if_neg hc2] at hsn
      refine ge_round (k + 1, a34, c34) (show k + 1 ≤ r.length by omega) (by show r.length - (k + 1) < r.length - k; omega) (Keep.cons rfl (Keep.cons rfl (Keep.cons rfl (Keep.cons rfl (Keep.cons rfl Keep.nil))))) (by dsimp only; rw [hsn, pl_snoc]; exact (To.sat (by repeat (first | exact .nil | exact .done .refl | (apply To.cons; · (first | exact .head | exact .tail .head | exact .tail (.tail .head) | exact .tail (.tail (.tail .head)) | exact .tail (.tail (.tail (.tail .head))) | exact .tail (.tail (.tail (.tail (.tail .head)))) | exact .tail (.tail (.tail (.tail (.tail (.tail .head))))) | exact .tail (.tail (.tail (.tail (.tail (.tail (.tail .head)))))))) | exact .done (by repeat (first | exact .refl | apply Drop.skip))))))
  ·
    first | replace hc1 := of_decide_eq_true hc1 | replace hc1 := lt_f hc1 | replace hc1 := le_f hc1 | replace hc1 := dec_f hc1 | replace hc1 := nlt_t hc1 | replace hc1 := nle_t hc1 | replace hc1 := ndec_t hc1 | replace hc1 := ndec_f hc1 | replace hc1 := nn_t hc1 | replace hc1 := nn_f hc1 | skip
    refine g_exit ?_
    refine ge_then_exit ?_
    refine ge_then_exit ?_
    refine ge_block_exit ?_
    refine ge_then ?_
    refine g_seq ?_
    refine g_region ?_
    refine gl_v rfl (o_move rfl) ?_
    refine gl_v rfl (o_assign rfl) ?_
    refine gl_nil ?_
    refine ge_then ?_
    refine g_ret ?_
    refine ret1 (.inl rfl) rfl rfl [places (.slice a' r.length c') (wth r id w), places (.slice a r.length c) r] (⟨a', c', by rw [show k = r.length by omega], rfl⟩) (by rw [show k = r.length by omega, List.take_length]; unfold places; rw [show (wth r id w).length = r.length by simp [wth]]; exact (To.sat (by repeat (first | exact .nil | exact .done .refl | (apply To.cons; · (first | exact .head | exact .tail .head | exact .tail (.tail .head) | exact .tail (.tail (.tail .head)) | exact .tail (.tail (.tail (.tail .head))) | exact .tail (.tail (.tail (.tail (.tail .head)))) | exact .tail (.tail (.tail (.tail (.tail (.tail .head))))) | exact .tail (.tail (.tail (.tail (.tail (.tail (.tail .head)))))))) | exact .done (by repeat (first | exact .refl | apply Drop.skip))))))

theorem rHeld_spec (a : Option Addr) (c : Nat) (r : List (Int × Int)) (hr : r.length ≤ 1000000) : FnS Try.prog 16 [.slice a r.length c] [places (.slice a r.length c) r] (fun u Bs => ∃ a' c', u = .slice a' (held r).length c' ∧ Bs = [places (.slice a' (held r).length c') (held r), places (.slice a r.length c) r]) := by
  refine fn_body Try.func16 rfl rfl rfl ?_
  intro W0 R
  simp only [List.zipIdx_cons, List.zipIdx_nil, List.map_cons, List.map_nil, Nat.zero_add, Nat.reduceAdd, List.cons_append, List.nil_append]
  refine g_seq ?_
  refine g_region ?_
  refine gl_v rfl (o_assign rfl) ?_
  refine gl_nil ?_
  refine ge_then ?_
  refine g_seq ?_
  refine g_region ?_
  refine gl_v rfl (o_assign rfl) ?_
  refine gl_nil ?_
  refine ge_then ?_
  refine g_seq ?_
  refine g_seq ?_
  refine g_imp (own_nil0 (e := 43) (sz := 2)) ?_
  refine g_region ?_
  refine gl_v rfl (o_assign rfl) ?_
  refine gl_nil ?_
  refine ge_then ?_
  refine g_block ?_
  refine g_loop (ι := Nat × Option Addr × Nat) (fun x => x.1 ≤ r.length) (fun x => [(4, I64 x.1), (3, .slice x.2.1 (held (r.take x.1)).length x.2.2), (0, .slice a r.length c)]) (fun x => places (.slice x.2.1 (held (r.take x.1)).length x.2.2) (held (r.take x.1)) :: places (.slice a r.length c) r :: R) (fun x => r.length - x.1) (0, none, 0) (Nat.zero_le _) (Keep.cons rfl (Keep.cons rfl (Keep.cons rfl (Keep.nil)))) (To.sat (by repeat (first | exact .nil | exact .done .refl | (apply To.cons; · (first | exact .head | exact .tail .head | exact .tail (.tail .head) | exact .tail (.tail (.tail .head)) | exact .tail (.tail (.tail (.tail .head))) | exact .tail (.tail (.tail (.tail (.tail .head)))) | exact .tail (.tail (.tail (.tail (.tail (.tail .head))))) | exact .tail (.tail (.tail (.tail (.tail (.tail (.tail .head)))))))) | exact .done (by repeat (first | exact .refl | apply Drop.skip))))) ?_
  rintro ⟨k, a', c'⟩ hk1
  have hk1 : k ≤ r.length := hk1
  have hcl : (held (r.take k)).length ≤ 1000000 := Nat.le_trans (held_len _) (by rw [List.length_take]; omega)
  dsimp only
  refine g_seq ?_
  refine g_seq ?_
  refine g_region ?_
  refine gl_v rfl (o_move rfl) ?_
  refine gl_v rfl (o_move rfl) ?_
  refine gl_v rfl (o_len rfl) ?_
  refine gl_v rfl (o_lss rfl rfl) ?_
  refine gl_nil ?_
  refine ge_then ?_
  refine g_cond rfl (fun hc1 => ?_) (fun hc1 => ?_)
  ·
    first | replace hc1 := of_decide_eq_true hc1 | replace hc1 := lt_f hc1 | replace hc1 := le_f hc1 | replace hc1 := dec_f hc1 | replace hc1 := nlt_t hc1 | replace hc1 := nle_t hc1 | replace hc1 := ndec_t hc1 | replace hc1 := ndec_f hc1 | replace hc1 := nn_t hc1 | replace hc1 := nn_f hc1 | skip
    obtain ⟨q, hq⟩ : ∃ q, r[k]? = some q := ⟨_, List.getElem?_eq_getElem (by omega)⟩
    refine g_skip ?_
    refine ge_then ?_
    refine g_seq ?_
    refine g_block ?_
    refine g_seq ?_
    refine g_region ?_
    refine gl_v rfl (o_move rfl) ?_
    refine gl_v rfl (o_move rfl) ?_
    refine gl_v rfl (o_idxS rfl rfl (by first | assumption | omega)) ?_
    first | refine gl_v rfl (o_fldS rfl) ?_ | refine gl_v rfl (o_fld rfl) ?_
    refine gl_v rfl (o_loadS rfl (pl_1 hq)) ?_
    refine gl_c rfl (o_call rfl (rholds_spec _) (by repeat (first | exact .nil | (apply Part.cons; · (first | exact .head | exact .tail .head | exact .tail (.tail .head) | exact .tail (.tail (.tail .head)) | exact .tail (.tail (.tail (.tail .head))) | exact .tail (.tail (.tail (.tail (.tail .head)))) | exact .tail (.tail (.tail (.tail (.tail (.tail .head))))) | exact .tail (.tail (.tail (.tail (.tail (.tail (.tail .head))))))))))) ?_
    rintro _ _ ⟨_, ⟨rfl, rfl⟩, rfl⟩
    simp only [List.cons_append, List.nil_append]
    refine gl_nil ?_
    refine ge_then ?_
    refine g_cond rfl (fun hc2 => ?_) (fun hc2 => ?_)
    ·
      first | replace hc2 := of_decide_eq_true hc2 | replace hc2 := lt_f hc2 | replace hc2 := le_f hc2 | replace hc2 := dec_f hc2 | replace hc2 := nlt_t hc2 | replace hc2 := nle_t hc2 | replace hc2 := ndec_t hc2 | replace hc2 := ndec_f hc2 | replace hc2 := nn_t hc2 | replace hc2 := nn_f hc2 | skip
      have hh : hl q.2 = true := by simpa [hl] using hc2
      refine g_region ?_
      refine gl_v rfl (o_move rfl) ?_
      refine gl_v rfl (o_move rfl) ?_
      refine gl_v rfl (o_move rfl) ?_
      refine gl_v rfl (o_idxS rfl rfl (by first | assumption | omega)) ?_
      refine gl_v rfl (o_loadSA rfl (pl_q hq) rfl) ?_
      first | refine gl_n rfl (o_buildS1 rfl rfl rfl) ?_ | refine gl_n rfl (o_buildS1A rfl rfl rfl rfl) ?_ | refine gl_n rfl (o_buildS rfl rfl rfl rfl) ?_
      rintro _ _ ⟨b22, rfl, rfl⟩
      refine gl_n rfl (o_append rfl rfl (by repeat (first | exact .nil | (apply Part.cons; · (first | exact .head | exact .tail .head | exact .tail (.tail .head) | exact .tail (.tail (.tail .head)) | exact .tail (.tail (.tail (.tail .head))) | exact .tail (.tail (.tail (.tail (.tail .head)))) | exact .tail (.tail (.tail (.tail (.tail (.tail .head))))) | exact .tail (.tail (.tail (.tail (.tail (.tail (.tail .head)))))))))) rfl rfl rfl (by omega) (by unfold maxLen; omega)) ?_
      rintro _ _ ⟨a23, c23, rfl, rfl⟩
      refine gl_v rfl (o_assign rfl) ?_
      refine gl_nil ?_
      refine ge_block ?_
      refine ge_then ?_
      refine g_region ?_
      refine gl_v rfl (o_move rfl) ?_
      refine gl_v rfl (o_addR _ (by first | exact wr_i64 (by omega) | rfl) rfl rfl) ?_
      refine gl_v rfl (o_assign rfl) ?_
      refine gl_nil ?_
      have hct := held_take hq
      rw [hh, if_pos rfl] at hct
      refine ge_round (k + 1, a23, c23) (show k + 1 ≤ r.length by omega) (by show r.length - (k + 1) < r.length - k; omega) (by dsimp only; rw [hct, List.length_append]; exact (Keep.cons rfl (Keep.cons rfl (Keep.cons rfl (Keep.nil))))) (by dsimp only; unfold places; rw [hct, pl_snoc, List.length_append]; exact (To.sat (by repeat (first | exact .nil | exact .done .refl | (apply To.cons; · (first | exact .head | exact .tail .head | exact .tail (.tail .head) | exact .tail (.tail (.tail .head)) | exact .tail (.tail (.tail (.tail .head))) | exact .tail (.tail (.tail (.tail (.tail .head)))) | exact .tail (.tail (.tail (.tail (.tail (.tail .head))))) | exact .tail (.tail (.tail (.tail (.tail (.tail (.tail .head)))))))) | exact .done (by repeat (first | exact .refl | apply Drop.skip))))))
    ·
      first | replace hc2 := of_decide_eq_true hc2 | replace hc2 := lt_f hc2 | replace hc2 := le_f hc2 | replace hc2 := dec_f hc2 | replace hc2 := nlt_t hc2 | replace hc2 := nle_t hc2 | replace hc2 := ndec_t hc2 | replace hc2 := ndec_f hc2 | replace hc2 := nn_t hc2 | replace hc2 := nn_f hc2 | skip
      have hh : hl q.2 = false := by simpa [hl] using hc2
      refine g_skip ?_
      refine ge_block ?_
      refine ge_then ?_
      refine g_region ?_
      refine gl_v rfl (o_move rfl) ?_
      refine gl_v rfl (o_addR _ (by first | exact wr_i64 (by omega) | rfl) rfl rfl) ?_
      refine gl_v rfl (o_assign rfl) ?_
      refine gl_nil ?_
      have hct := held_take hq
      rw [hh, if_neg (by simp), List.append_nil] at hct
      refine ge_round (k + 1, a', c') (show k + 1 ≤ r.length by omega) (by show r.length - (k + 1) < r.length - k; omega) (by dsimp only; rw [hct]; exact (Keep.cons rfl (Keep.cons rfl (Keep.cons rfl (Keep.nil))))) (by dsimp only; rw [hct]; exact (To.sat (by repeat (first | exact .nil | exact .done .refl | (apply To.cons; · (first | exact .head | exact .tail .head | exact .tail (.tail .head) | exact .tail (.tail (.tail .head)) | exact .tail (.tail (.tail (.tail .head))) | exact .tail (.tail (.tail (.tail (.tail .head)))) | exact .tail (.tail (.tail (.tail (.tail (.tail .head))))) | exact .tail (.tail (.tail (.tail (.tail (.tail (.tail .head)))))))) | exact .done (by repeat (first | exact .refl | apply Drop.skip))))))
  ·
    first | replace hc1 := of_decide_eq_true hc1 | replace hc1 := lt_f hc1 | replace hc1 := le_f hc1 | replace hc1 := dec_f hc1 | replace hc1 := nlt_t hc1 | replace hc1 := nle_t hc1 | replace hc1 := ndec_t hc1 | replace hc1 := ndec_f hc1 | replace hc1 := nn_t hc1 | replace hc1 := nn_f hc1 | skip
    refine g_exit ?_
    refine ge_then_exit ?_
    refine ge_then_exit ?_
    refine ge_block_exit ?_
    refine ge_then ?_
    refine g_seq ?_
    refine g_region ?_
    refine gl_v rfl (o_move rfl) ?_
    refine gl_v rfl (o_assign rfl) ?_
    refine gl_nil ?_
    refine ge_then ?_
    refine g_ret ?_
    refine ret1 (.inl rfl) rfl rfl [places (.slice a' (held r).length c') (held r), places (.slice a r.length c) r] (⟨a', c', by rw [List.take_of_length_le (by omega)], rfl⟩) (by rw [List.take_of_length_le (by omega)]; exact (To.sat (by repeat (first | exact .nil | exact .done .refl | (apply To.cons; · (first | exact .head | exact .tail .head | exact .tail (.tail .head) | exact .tail (.tail (.tail .head)) | exact .tail (.tail (.tail (.tail .head))) | exact .tail (.tail (.tail (.tail (.tail .head)))) | exact .tail (.tail (.tail (.tail (.tail (.tail .head))))) | exact .tail (.tail (.tail (.tail (.tail (.tail (.tail .head)))))))) | exact .done (by repeat (first | exact .refl | apply Drop.skip))))))

theorem Held_spec (p : Nat) (r : List (Int × Int)) (hr : r.length ≤ 1000000) (hk : ROk r) : FnS Try.prog 15 [ptr p 0] [ledger p r] (fun u Bs => ∃ a' c', u = .slice a' (held r).length c' ∧ Bs = [places (.slice a' (held r).length c') (held r), ledger p r]) := by
  refine fn_body Try.func15 rfl rfl rfl ?_
  intro W0 R
  simp only [List.zipIdx_cons, List.zipIdx_nil, List.map_cons, List.map_nil, Nat.zero_add, Nat.reduceAdd, List.cons_append, List.nil_append]
  refine g_seq ?_
  refine g_region ?_
  refine gl_v rfl (o_assign rfl) ?_
  refine gl_nil ?_
  refine ge_then ?_
  refine g_seq ?_
  refine g_region ?_
  refine gl_v rfl (o_assign rfl) ?_
  refine gl_nil ?_
  refine ge_then ?_
  refine g_seq ?_
  refine g_seq ?_
  refine g_imp (own_nil0 (e := 43) (sz := 2)) ?_
  refine g_open (by first | exact .head | exact .tail .head | exact .tail (.tail .head) | exact .tail (.tail (.tail .head)) | exact .tail (.tail (.tail (.tail .head))) | exact .tail (.tail (.tail (.tail (.tail .head)))) | exact .tail (.tail (.tail (.tail (.tail (.tail .head))))) | exact .tail (.tail (.tail (.tail (.tail (.tail (.tail .head))))))) ?_
  rintro ⟨mb, ⟨a, c⟩, cs⟩ hL
  have hL : LOk r cs := hL
  simp only [List.cons_append, List.nil_append]
  refine g_region ?_
  refine gl_v rfl (o_move rfl) ?_
  refine gl_v rfl (o_nil rfl) ?_
  first | refine gl_v rfl (o_fldS rfl) ?_ | refine gl_v rfl (o_fld rfl) ?_
  first | refine gl_v rfl (o_load rfl rfl) ?_ | refine gl_v rfl (o_loadS rfl rfl) ?_
  refine gl_v rfl (o_len rfl) ?_
  refine gl_v rfl (o_move rfl) ?_
  refine gl_nil ?_
  refine ge_then ?_
  refine g_block ?_
  refine g_loop (ι := Nat × Option Addr × Nat) (fun x => x.1 ≤ r.length) (fun x => [(12, I64 x.1), (3, .slice x.2.1 (held (r.take x.1)).length x.2.2), (11, I64 r.length), (10, .slice a r.length c), (0, ptr p 0)]) (fun x => places (.slice x.2.1 (held (r.take x.1)).length x.2.2) (held (r.take x.1)) :: cel p 52 (.map (some mb) :: .slice a r.length c :: cs.map I64) :: mapI mb .u64 (r.map fun q => (q.1, I64 q.2)) :: own (.slice a r.length c) 29 1 r.length (r.map fun q => U64 q.1) :: R) (fun x => r.length - x.1) (0, none, 0) (Nat.zero_le _) (Keep.cons rfl (Keep.cons rfl (Keep.cons rfl (Keep.cons rfl (Keep.cons rfl (Keep.nil)))))) (To.sat (by repeat (first | exact .nil | exact .done .refl | (apply To.cons; · (first | exact .head | exact .tail .head | exact .tail (.tail .head) | exact .tail (.tail (.tail .head)) | exact .tail (.tail (.tail (.tail .head))) | exact .tail (.tail (.tail (.tail (.tail .head)))) | exact .tail (.tail (.tail (.tail (.tail (.tail .head))))) | exact .tail (.tail (.tail (.tail (.tail (.tail (.tail .head)))))))) | exact .done (by repeat (first | exact .refl | apply Drop.skip))))) ?_
  rintro ⟨k, a', c'⟩ hk1
  have hk1 : k ≤ r.length := hk1
  have hcl : (held (r.take k)).length ≤ 1000000 := Nat.le_trans (held_len _) (by rw [List.length_take]; omega)
  dsimp only
  refine g_seq ?_
  refine g_region ?_
  refine gl_v rfl (o_lss rfl rfl) ?_
  refine gl_nil ?_
  refine ge_then ?_
  refine g_seq ?_
  refine g_cond rfl (fun hc1 => ?_) (fun hc1 => ?_)
  ·
    first | replace hc1 := of_decide_eq_true hc1 | replace hc1 := lt_f hc1 | replace hc1 := le_f hc1 | replace hc1 := dec_f hc1 | replace hc1 := nlt_t hc1 | replace hc1 := nle_t hc1 | replace hc1 := ndec_t hc1 | replace hc1 := ndec_f hc1 | replace hc1 := nn_t hc1 | replace hc1 := nn_f hc1 | skip
    obtain ⟨q, hq⟩ : ∃ q, r[k]? = some q := ⟨_, List.getElem?_eq_getElem (by omega)⟩
    have hqw : wh r q.1 = q.2 := wh_at hk hq
    refine g_skip ?_
    refine ge_then ?_
    refine g_seq ?_
    refine g_block ?_
    refine g_seq ?_
    refine g_region ?_
    refine gl_v rfl (o_idxS rfl rfl (by first | assumption | omega)) ?_
    refine gl_v rfl (o_loadS rfl (show (r.map fun q => U64 q.1)[k * 1]? = some (U64 q.1) by rw [Nat.mul_one, List.getElem?_map, hq]; rfl)) ?_
    refine gl_v rfl (o_assign rfl) ?_
    refine gl_nil ?_
    refine ge_then ?_
    refine g_seq ?_
    refine g_region ?_
    refine gl_v rfl (o_move rfl) ?_
    refine gl_v rfl (o_nil rfl) ?_
    first | refine gl_v rfl (o_fldS rfl) ?_ | refine gl_v rfl (o_fld rfl) ?_
    first | refine gl_v rfl (o_load rfl rfl) ?_ | refine gl_v rfl (o_loadS rfl rfl) ?_
    refine gl_v rfl (o_move rfl) ?_
    refine gl_v rfl (o_lookupR (I64 q.2) (by rw [← hqw]; exact wh_look r q.1) rfl rfl) ?_
    refine gl_v rfl (o_assign rfl) ?_
    refine gl_nil ?_
    refine ge_then ?_
    refine g_seq ?_
    refine g_region ?_
    refine gl_v rfl (o_move rfl) ?_
    refine gl_c rfl (o_call rfl (holds_spec _) (by repeat (first | exact .nil | (apply Part.cons; · (first | exact .head | exact .tail .head | exact .tail (.tail .head) | exact .tail (.tail (.tail .head)) | exact .tail (.tail (.tail (.tail .head))) | exact .tail (.tail (.tail (.tail (.tail .head)))) | exact .tail (.tail (.tail (.tail (.tail (.tail .head))))) | exact .tail (.tail (.tail (.tail (.tail (.tail (.tail .head))))))))))) ?_
    rintro _ _ ⟨_, ⟨rfl, rfl⟩, rfl⟩
    simp only [List.cons_append, List.nil_append]
    refine gl_nil ?_
    refine ge_then ?_
    refine g_cond rfl (fun hc2 => ?_) (fun hc2 => ?_)
    ·
      first | replace hc2 := of_decide_eq_true hc2 | replace hc2 := lt_f hc2 | replace hc2 := le_f hc2 | replace hc2 := dec_f hc2 | replace hc2 := nlt_t hc2 | replace hc2 := nle_t hc2 | replace hc2 := ndec_t hc2 | replace hc2 := ndec_f hc2 | replace hc2 := nn_t hc2 | replace hc2 := nn_f hc2 | skip
      have hh : hl q.2 = true := by simpa [hl] using hc2
      refine g_region ?_
      refine gl_v rfl (o_move rfl) ?_
      refine gl_v rfl (o_move rfl) ?_
      refine gl_v rfl (o_move rfl) ?_
      refine gl_v rfl (o_build rfl rfl) ?_
      first | refine gl_n rfl (o_buildS1 rfl rfl rfl) ?_ | refine gl_n rfl (o_buildS1A rfl rfl rfl rfl) ?_ | refine gl_n rfl (o_buildS rfl rfl rfl rfl) ?_
      rintro _ _ ⟨b28, rfl, rfl⟩
      refine gl_n rfl (o_append rfl rfl (by repeat (first | exact .nil | (apply Part.cons; · (first | exact .head | exact .tail .head | exact .tail (.tail .head) | exact .tail (.tail (.tail .head)) | exact .tail (.tail (.tail (.tail .head))) | exact .tail (.tail (.tail (.tail (.tail .head)))) | exact .tail (.tail (.tail (.tail (.tail (.tail .head))))) | exact .tail (.tail (.tail (.tail (.tail (.tail (.tail .head)))))))))) rfl rfl rfl (by omega) (by unfold maxLen; omega)) ?_
      rintro _ _ ⟨a29, c29, rfl, rfl⟩
      refine gl_v rfl (o_assign rfl) ?_
      refine gl_nil ?_
      refine ge_block ?_
      refine ge_then ?_
      refine g_region ?_
      refine gl_v rfl (o_addR _ (by first | exact wr_i64 (by omega) | rfl) rfl rfl) ?_
      refine gl_v rfl (o_move rfl) ?_
      refine gl_nil ?_
      have hct := held_take hq
      rw [hh, if_pos rfl] at hct
      refine ge_round (k + 1, a29, c29) (show k + 1 ≤ r.length by omega) (by show r.length - (k + 1) < r.length - k; omega) (by dsimp only; rw [hct, List.length_append]; exact (Keep.cons rfl (Keep.cons rfl (Keep.cons rfl (Keep.cons rfl (Keep.cons rfl (Keep.nil))))))) (by dsimp only; unfold places; rw [hct, pl_snoc, List.length_append]; exact (To.sat (by repeat (first | exact .nil | exact .done .refl | (apply To.cons; · (first | exact .head | exact .tail .head | exact .tail (.tail .head) | exact .tail (.tail (.tail .head)) | exact .tail (.tail (.tail (.tail .head))) | exact .tail (.tail (.tail (.tail (.tail .head)))) | exact .tail (.tail (.tail (.tail (.tail (.tail .head))))) | exact .tail (.tail (.tail (.tail (.tail (.tail (.tail .head)))))))) | exact .done (by repeat (first | exact .refl | apply Drop.skip))))))
    ·
      first | replace hc2 := of_decide_eq_true hc2 | replace hc2 := lt_f hc2 | replace hc2 := le_f hc2 | replace hc2 := dec_f hc2 | replace hc2 := nlt_t hc2 | replace hc2 := nle_t hc2 | replace hc2 := ndec_t hc2 | replace hc2 := ndec_f hc2 | replace hc2 := nn_t hc2 | replace hc2 := nn_f hc2 | skip
      have hh : hl q.2 = false := by simpa [hl] using hc2
      refine g_skip ?_
      refine ge_block ?_
      refine ge_then ?_
      refine g_region ?_
      refine gl_v rfl (o_addR _ (by first | exact wr_i64 (by omega) | rfl) rfl rfl) ?_
      refine gl_v rfl (o_move rfl) ?_
      refine gl_nil ?_
      have hct := held_take hq
      rw [hh, if_neg (by simp), List.append_nil] at hct
      refine ge_round (k + 1, a', c') (show k + 1 ≤ r.length by omega) (by show r.length - (k + 1) < r.length - k; omega) (by dsimp only; rw [hct]; exact (Keep.cons rfl (Keep.cons rfl (Keep.cons rfl (Keep.cons rfl (Keep.cons rfl (Keep.nil))))))) (by dsimp only; rw [hct]; exact (To.sat (by repeat (first | exact .nil | exact .done .refl | (apply To.cons; · (first | exact .head | exact .tail .head | exact .tail (.tail .head) | exact .tail (.tail (.tail .head)) | exact .tail (.tail (.tail (.tail .head))) | exact .tail (.tail (.tail (.tail (.tail .head)))) | exact .tail (.tail (.tail (.tail (.tail (.tail .head))))) | exact .tail (.tail (.tail (.tail (.tail (.tail (.tail .head)))))))) | exact .done (by repeat (first | exact .refl | apply Drop.skip))))))
  ·
    first | replace hc1 := of_decide_eq_true hc1 | replace hc1 := lt_f hc1 | replace hc1 := le_f hc1 | replace hc1 := dec_f hc1 | replace hc1 := nlt_t hc1 | replace hc1 := nle_t hc1 | replace hc1 := ndec_t hc1 | replace hc1 := ndec_f hc1 | replace hc1 := nn_t hc1 | replace hc1 := nn_f hc1 | skip
    refine g_exit ?_
    refine ge_then_exit ?_
    refine ge_then_exit ?_
    refine ge_block_exit ?_
    refine ge_then ?_
    refine g_seq ?_
    refine g_region ?_
    refine gl_v rfl (o_move rfl) ?_
    refine gl_v rfl (o_assign rfl) ?_
    refine gl_nil ?_
    refine ge_then ?_
    refine g_ret ?_
    refine ret1 (.inl rfl) rfl rfl [places (.slice a' (held r).length c') (held r), ledger p r] (⟨a', c', by rw [List.take_of_length_le (by omega)], rfl⟩) (by rw [List.take_of_length_le (by omega)]; exact fun h s => Sat.tail (ledger_close mb a c cs hL rfl (To.sat (by repeat (first | exact .nil | exact .done .refl | (apply To.cons; · (first | exact .head | exact .tail .head | exact .tail (.tail .head) | exact .tail (.tail (.tail .head)) | exact .tail (.tail (.tail (.tail .head))) | exact .tail (.tail (.tail (.tail (.tail .head)))) | exact .tail (.tail (.tail (.tail (.tail (.tail .head))))) | exact .tail (.tail (.tail (.tail (.tail (.tail (.tail .head)))))))) | exact .done (by repeat (first | exact .refl | apply Drop.skip)))))) s)

theorem rSame_spec (a b : Option Addr) (c d : Nat) (r : List (Int × Int)) (hr : r.length ≤ 1000000) : FnS Try.prog 14 [.slice a r.length c, .slice b r.length d] [places (.slice a r.length c) r, places (.slice b r.length d) r] (fun u Bs => u = .bool true ∧ Bs = []) := by
  refine fn_body Try.func14 rfl rfl rfl ?_
  intro W0 R
  simp only [List.zipIdx_cons, List.zipIdx_nil, List.map_cons, List.map_nil, Nat.zero_add, Nat.reduceAdd, List.cons_append, List.nil_append]
  refine g_seq ?_
  refine g_region ?_
  refine gl_v rfl (o_assign rfl) ?_
  refine gl_nil ?_
  refine ge_then ?_
  refine g_seq ?_
  refine g_seq ?_
  refine g_region ?_
  refine gl_v rfl (o_move rfl) ?_
  refine gl_v rfl (o_len rfl) ?_
  refine gl_v rfl (o_move rfl) ?_
  refine gl_v rfl (o_len rfl) ?_
  refine gl_v rfl (o_neq rfl rfl) ?_
  refine gl_nil ?_
  refine ge_then ?_
  refine g_cond_false (by simp [opv, slk]) ?_
  refine g_skip ?_
  refine ge_then ?_
  refine g_seq ?_
  refine g_seq ?_
  refine g_region ?_
  refine gl_v rfl (o_assign rfl) ?_
  refine gl_nil ?_
  refine ge_then ?_
  refine g_block ?_
  refine g_loop (ι := Nat) (fun k => k ≤ r.length) (fun k => [(5, I64 k), (0, .slice a r.length c), (1, .slice b r.length d)]) (fun _ => places (.slice a r.length c) r :: places (.slice b r.length d) r :: R) (fun k => r.length - k) 0 (Nat.zero_le _) (Keep.cons rfl (Keep.cons rfl (Keep.cons rfl (Keep.nil)))) (To.sat (by repeat (first | exact .nil | exact .done .refl | (apply To.cons; · (first | exact .head | exact .tail .head | exact .tail (.tail .head) | exact .tail (.tail (.tail .head)) | exact .tail (.tail (.tail (.tail .head))) | exact .tail (.tail (.tail (.tail (.tail .head)))) | exact .tail (.tail (.tail (.tail (.tail (.tail .head))))) | exact .tail (.tail (.tail (.tail (.tail (.tail (.tail .head)))))))) | exact .done (by repeat (first | exact .refl | apply Drop.skip))))) ?_
  intro k hk1
  refine g_seq ?_
  refine g_seq ?_
  refine g_region ?_
  refine gl_v rfl (o_move rfl) ?_
  refine gl_v rfl (o_move rfl) ?_
  refine gl_v rfl (o_len rfl) ?_
  refine gl_v rfl (o_lss rfl rfl) ?_
  refine gl_nil ?_
  refine ge_then ?_
  refine g_cond rfl (fun hc1 => ?_) (fun hc1 => ?_)
  ·
    first | replace hc1 := of_decide_eq_true hc1 | replace hc1 := lt_f hc1 | replace hc1 := le_f hc1 | replace hc1 := dec_f hc1 | replace hc1 := nlt_t hc1 | replace hc1 := nle_t hc1 | replace hc1 := ndec_t hc1 | replace hc1 := ndec_f hc1 | replace hc1 := nn_t hc1 | replace hc1 := nn_f hc1 | skip
    obtain ⟨q, hq⟩ : ∃ q, r[k]? = some q := ⟨_, List.getElem?_eq_getElem (by omega)⟩
    refine g_skip ?_
    refine ge_then ?_
    refine g_seq ?_
    refine g_block ?_
    refine g_seq ?_
    refine g_draw [] [(0, .loc), (1, .loc), (2, .loc), (3, .loc), (4, .loc), (5, .loc), (6, .loc), (7, .loc), (8, .loc)] [] mixed (by kernel_rfl) ?_
    refine go_v rfl .none rfl (o_move rfl) ?_
    refine go_v rfl .none rfl (o_move rfl) ?_
    refine go_v rfl .none rfl (o_idxS rfl rfl (by first | assumption | omega)) ?_
    refine go_v rfl .none rfl (o_loadSA rfl (pl_q hq) rfl) ?_
    refine go_v rfl .none rfl (o_move rfl) ?_
    refine go_v rfl .none rfl (o_move rfl) ?_
    refine go_v rfl .none rfl (o_idxS rfl rfl (by first | assumption | omega)) ?_
    refine go_v rfl .none rfl (o_loadSA rfl (pl_q hq) rfl) ?_
    refine go_v rfl .none rfl (o_neqA rfl rfl rfl rfl) ?_
    refine go_nil ?_
    refine ge_then ?_
    refine g_cond_false (by simp [opv, slk, pe, flatEq]) ?_
    refine g_skip ?_
    refine ge_block ?_
    refine ge_then ?_
    refine g_region ?_
    refine gl_v rfl (o_move rfl) ?_
    refine gl_v rfl (o_addR _ (by first | exact wr_i64 (by omega) | rfl) rfl rfl) ?_
    refine gl_v rfl (o_assign rfl) ?_
    refine gl_nil ?_
    refine ge_round (k + 1) (show k + 1 ≤ r.length by omega) (by omega) (Keep.cons rfl (Keep.cons rfl (Keep.cons rfl (Keep.nil)))) (To.sat (by repeat (first | exact .nil | exact .done .refl | (apply To.cons; · (first | exact .head | exact .tail .head | exact .tail (.tail .head) | exact .tail (.tail (.tail .head)) | exact .tail (.tail (.tail (.tail .head))) | exact .tail (.tail (.tail (.tail (.tail .head)))) | exact .tail (.tail (.tail (.tail (.tail (.tail .head))))) | exact .tail (.tail (.tail (.tail (.tail (.tail (.tail .head)))))))) | exact .done (by repeat (first | exact .refl | apply Drop.skip)))))
  ·
    first | replace hc1 := of_decide_eq_true hc1 | replace hc1 := lt_f hc1 | replace hc1 := le_f hc1 | replace hc1 := dec_f hc1 | replace hc1 := nlt_t hc1 | replace hc1 := nle_t hc1 | replace hc1 := ndec_t hc1 | replace hc1 := ndec_f hc1 | replace hc1 := nn_t hc1 | replace hc1 := nn_f hc1 | skip
    refine g_exit ?_
    refine ge_then_exit ?_
    refine ge_then_exit ?_
    refine ge_block_exit ?_
    refine ge_then ?_
    refine g_seq ?_
    refine g_region ?_
    refine gl_v rfl (o_assign rfl) ?_
    refine gl_nil ?_
    refine ge_then ?_
    refine g_ret ?_
    refine ret1 (.inl rfl) rfl rfl _ (⟨rfl, rfl⟩) (To.sat (by repeat (first | exact .nil | exact .done .refl | (apply To.cons; · (first | exact .head | exact .tail .head | exact .tail (.tail .head) | exact .tail (.tail (.tail .head)) | exact .tail (.tail (.tail (.tail .head))) | exact .tail (.tail (.tail (.tail (.tail .head)))) | exact .tail (.tail (.tail (.tail (.tail (.tail .head))))) | exact .tail (.tail (.tail (.tail (.tail (.tail (.tail .head)))))))) | exact .done (by repeat (first | exact .refl | apply Drop.skip)))))

theorem rTo_spec (a : Option Addr) (c : Nat) (r : List (Int × Int)) (id w : Int) (hr : r.length ≤ 1000000) (hk : ROk r) : FnS Try.prog 24 [.slice a r.length c, U64 id, I64 w] [places (.slice a r.length c) r] (fun u Bs => ∃ a' c', u = .tuple #[.slice a' (fromR r id w).length c', I64 (fromE r id)] ∧ Bs = [places (.slice a' (fromR r id w).length c') (fromR r id w)]) := by
  refine fn_body Try.func24 rfl rfl rfl ?_
  intro W0 R
  simp only [List.zipIdx_cons, List.zipIdx_nil, List.map_cons, List.map_nil, Nat.zero_add, Nat.reduceAdd, List.cons_append, List.nil_append]
  refine g_seq ?_
  refine g_region ?_
  refine gl_v rfl (o_assign rfl) ?_
  refine gl_v rfl (o_assign rfl) ?_
  refine gl_nil ?_
  refine ge_then ?_
  refine g_seq ?_
  refine g_seq ?_
  refine g_region ?_
  refine gl_v rfl (o_move rfl) ?_
  refine gl_v rfl (o_move rfl) ?_
  refine gl_c rfl (o_call rfl (rWhere_spec _ _ _ _ hr) (by repeat (first | exact .nil | (apply Part.cons; · (first | exact .head | exact .tail .head | exact .tail (.tail .head) | exact .tail (.tail (.tail .head)) | exact .tail (.tail (.tail (.tail .head))) | exact .tail (.tail (.tail (.tail (.tail .head)))) | exact .tail (.tail (.tail (.tail (.tail (.tail .head))))) | exact .tail (.tail (.tail (.tail (.tail (.tail (.tail .head))))))))))) ?_
  rintro _ _ ⟨_, ⟨rfl, rfl⟩, rfl⟩
  simp only [List.cons_append, List.nil_append]
  refine gl_c rfl (o_call rfl (rholds_spec _) (by repeat (first | exact .nil | (apply Part.cons; · (first | exact .head | exact .tail .head | exact .tail (.tail .head) | exact .tail (.tail (.tail .head)) | exact .tail (.tail (.tail (.tail .head))) | exact .tail (.tail (.tail (.tail (.tail .head)))) | exact .tail (.tail (.tail (.tail (.tail (.tail .head))))) | exact .tail (.tail (.tail (.tail (.tail (.tail (.tail .head))))))))))) ?_
  rintro _ _ ⟨_, ⟨rfl, rfl⟩, rfl⟩
  simp only [List.cons_append, List.nil_append]
  refine gl_v rfl (o_not rfl) ?_
  refine gl_nil ?_
  refine ge_then ?_
  refine g_cond rfl (fun hc1 => ?_) (fun hc1 => ?_)
  ·
    first | replace hc1 := of_decide_eq_true hc1 | replace hc1 := lt_f hc1 | replace hc1 := le_f hc1 | replace hc1 := dec_f hc1 | replace hc1 := nlt_t hc1 | replace hc1 := nle_t hc1 | replace hc1 := ndec_t hc1 | replace hc1 := ndec_f hc1 | replace hc1 := nn_t hc1 | replace hc1 := nn_f hc1 | skip
    have hh : hl (wh r id) = false := by simpa [hl] using hc1
    refine g_seq ?_
    refine g_region ?_
    refine gl_v rfl (o_move rfl) ?_
    refine gl_v rfl (o_assign rfl) ?_
    refine gl_v rfl (o_assign rfl) ?_
    refine gl_nil ?_
    refine ge_then ?_
    refine g_ret ?_
    refine ge_then_ret ?_
    refine ret2 (.inl rfl) rfl rfl rfl _ (⟨a, c, by rw [show fromR r id w = r by simp [fromR, hh], show fromE r id = 2 by simp [fromE, hh]], by rw [show fromR r id w = r by simp [fromR, hh]]⟩) (To.sat (by repeat (first | exact .nil | exact .done .refl | (apply To.cons; · (first | exact .head | exact .tail .head | exact .tail (.tail .head) | exact .tail (.tail (.tail .head)) | exact .tail (.tail (.tail (.tail .head))) | exact .tail (.tail (.tail (.tail (.tail .head)))) | exact .tail (.tail (.tail (.tail (.tail (.tail .head))))) | exact .tail (.tail (.tail (.tail (.tail (.tail (.tail .head)))))))) | exact .done (by repeat (first | exact .refl | apply Drop.skip)))))
  ·
    first | replace hc1 := of_decide_eq_true hc1 | replace hc1 := lt_f hc1 | replace hc1 := le_f hc1 | replace hc1 := dec_f hc1 | replace hc1 := nlt_t hc1 | replace hc1 := nle_t hc1 | replace hc1 := ndec_t hc1 | replace hc1 := ndec_f hc1 | replace hc1 := nn_t hc1 | replace hc1 := nn_f hc1 | skip
    have hh : hl (wh r id) = true := by simpa [hl] using hc1
    have e1 : fromR r id w = wth r id w := by simp only [fromR, hh, if_true]; exact (wth_put hk.nd (mget_of_hl (hl_iff.1 hh).1)).symm
    have e2 : (wth r id w).length = r.length := by simp [wth]
    refine g_skip ?_
    refine ge_then ?_
    refine g_seq ?_
    refine g_region ?_
    refine gl_v rfl (o_move rfl) ?_
    refine gl_v rfl (o_move rfl) ?_
    refine gl_v rfl (o_move rfl) ?_
    refine gl_c rfl (o_call rfl (rwith_spec _ _ _ _ _ hr) (by repeat (first | exact .nil | (apply Part.cons; · (first | exact .head | exact .tail .head | exact .tail (.tail .head) | exact .tail (.tail (.tail .head)) | exact .tail (.tail (.tail (.tail .head))) | exact .tail (.tail (.tail (.tail (.tail .head)))) | exact .tail (.tail (.tail (.tail (.tail (.tail .head))))) | exact .tail (.tail (.tail (.tail (.tail (.tail (.tail .head))))))))))) ?_
    rintro _ _ ⟨_, ⟨a1, c1, rfl, rfl⟩, rfl⟩
    simp only [List.cons_append, List.nil_append]
    refine gl_v rfl (o_assign rfl) ?_
    refine gl_v rfl (o_assign rfl) ?_
    refine gl_nil ?_
    refine ge_then ?_
    refine g_ret ?_
    refine ret2 (.inl rfl) rfl rfl rfl [places (.slice a1 (fromR r id w).length c1) (fromR r id w)] (⟨a1, c1, by rw [e1, e2, show fromE r id = 0 by simp [fromE, hh]], rfl⟩) (by rw [e1]; unfold places; rw [e2]; exact (To.sat (by repeat (first | exact .nil | exact .done .refl | (apply To.cons; · (first | exact .head | exact .tail .head | exact .tail (.tail .head) | exact .tail (.tail (.tail .head)) | exact .tail (.tail (.tail (.tail .head))) | exact .tail (.tail (.tail (.tail (.tail .head)))) | exact .tail (.tail (.tail (.tail (.tail (.tail .head))))) | exact .tail (.tail (.tail (.tail (.tail (.tail (.tail .head)))))))) | exact .done (by repeat (first | exact .refl | apply Drop.skip))))))

theorem rMove_spec (a : Option Addr) (c : Nat) (r : List (Int × Int)) (id w : Int) (hr : r.length ≤ 1000000) (hk : ROk r) : FnS Try.prog 23 [.slice a r.length c, U64 id, I64 w] [places (.slice a r.length c) r] (fun u Bs => ∃ a' c', u = .tuple #[.slice a' (movR r id w).length c', I64 (movE r id w)] ∧ Bs = [places (.slice a' (movR r id w).length c') (movR r id w)]) := by
  refine fn_body Try.func23 rfl rfl rfl ?_
  intro W0 R
  simp only [List.zipIdx_cons, List.zipIdx_nil, List.map_cons, List.map_nil, Nat.zero_add, Nat.reduceAdd, List.cons_append, List.nil_append]
  refine g_seq ?_
  refine g_region ?_
  refine gl_v rfl (o_assign rfl) ?_
  refine gl_v rfl (o_assign rfl) ?_
  refine gl_nil ?_
  refine ge_then ?_
  refine g_seq ?_
  refine g_seq ?_
  refine g_region ?_
  refine gl_v rfl (o_move rfl) ?_
  refine gl_c rfl (o_call rfl (rholds_spec _) (by repeat (first | exact .nil | (apply Part.cons; · (first | exact .head | exact .tail .head | exact .tail (.tail .head) | exact .tail (.tail (.tail .head)) | exact .tail (.tail (.tail (.tail .head))) | exact .tail (.tail (.tail (.tail (.tail .head)))) | exact .tail (.tail (.tail (.tail (.tail (.tail .head))))) | exact .tail (.tail (.tail (.tail (.tail (.tail (.tail .head))))))))))) ?_
  rintro _ _ ⟨_, ⟨rfl, rfl⟩, rfl⟩
  simp only [List.cons_append, List.nil_append]
  refine gl_v rfl (o_not rfl) ?_
  refine gl_nil ?_
  refine ge_then ?_
  refine g_cond rfl (fun hc1 => ?_) (fun hc1 => ?_)
  ·
    first | replace hc1 := of_decide_eq_true hc1 | replace hc1 := lt_f hc1 | replace hc1 := le_f hc1 | replace hc1 := dec_f hc1 | replace hc1 := nlt_t hc1 | replace hc1 := nle_t hc1 | replace hc1 := ndec_t hc1 | replace hc1 := ndec_f hc1 | replace hc1 := nn_t hc1 | replace hc1 := nn_f hc1 | skip
    have hh : hl w = false := by simpa [hl] using hc1
    refine g_seq ?_
    refine g_region ?_
    refine gl_v rfl (o_move rfl) ?_
    refine gl_v rfl (o_assign rfl) ?_
    refine gl_v rfl (o_assign rfl) ?_
    refine gl_nil ?_
    refine ge_then ?_
    refine g_ret ?_
    refine ge_then_ret ?_
    refine ret2 (.inl rfl) rfl rfl rfl _ (⟨a, c, by rw [show movR r id w = r by simp [movR, hh], show movE r id w = 1 by simp [movE, hh]], by rw [show movR r id w = r by simp [movR, hh]]⟩) (To.sat (by repeat (first | exact .nil | exact .done .refl | (apply To.cons; · (first | exact .head | exact .tail .head | exact .tail (.tail .head) | exact .tail (.tail (.tail .head)) | exact .tail (.tail (.tail (.tail .head))) | exact .tail (.tail (.tail (.tail (.tail .head)))) | exact .tail (.tail (.tail (.tail (.tail (.tail .head))))) | exact .tail (.tail (.tail (.tail (.tail (.tail (.tail .head)))))))) | exact .done (by repeat (first | exact .refl | apply Drop.skip)))))
  ·
    first | replace hc1 := of_decide_eq_true hc1 | replace hc1 := lt_f hc1 | replace hc1 := le_f hc1 | replace hc1 := dec_f hc1 | replace hc1 := nlt_t hc1 | replace hc1 := nle_t hc1 | replace hc1 := ndec_t hc1 | replace hc1 := ndec_f hc1 | replace hc1 := nn_t hc1 | replace hc1 := nn_f hc1 | skip
    have hh : hl w = true := by simpa [hl] using hc1
    refine g_skip ?_
    refine ge_then ?_
    refine g_seq ?_
    refine g_region ?_
    refine gl_v rfl (o_move rfl) ?_
    refine gl_v rfl (o_move rfl) ?_
    refine gl_v rfl (o_move rfl) ?_
    refine gl_c rfl (o_call rfl (rTo_spec _ _ _ _ _ hr hk) (by repeat (first | exact .nil | (apply Part.cons; · (first | exact .head | exact .tail .head | exact .tail (.tail .head) | exact .tail (.tail (.tail .head)) | exact .tail (.tail (.tail (.tail .head))) | exact .tail (.tail (.tail (.tail (.tail .head)))) | exact .tail (.tail (.tail (.tail (.tail (.tail .head))))) | exact .tail (.tail (.tail (.tail (.tail (.tail (.tail .head))))))))))) ?_
    rintro _ _ ⟨_, ⟨a4, c4, rfl, rfl⟩, rfl⟩
    simp only [List.cons_append, List.nil_append]
    refine gl_v rfl (o_extract rfl rfl) ?_
    refine gl_v rfl (o_extract rfl rfl) ?_
    refine gl_v rfl (o_assign rfl) ?_
    refine gl_v rfl (o_assign rfl) ?_
    refine gl_nil ?_
    refine ge_then ?_
    refine g_ret ?_
    refine ret2 (.inl rfl) rfl rfl rfl _ (⟨a4, c4, by rw [show movR r id w = fromR r id w by simp [movR, hh], show movE r id w = fromE r id by simp [movE, hh]], by rw [show movR r id w = fromR r id w by simp [movR, hh]]⟩) (To.sat (by repeat (first | exact .nil | exact .done .refl | (apply To.cons; · (first | exact .head | exact .tail .head | exact .tail (.tail .head) | exact .tail (.tail (.tail .head)) | exact .tail (.tail (.tail (.tail .head))) | exact .tail (.tail (.tail (.tail (.tail .head)))) | exact .tail (.tail (.tail (.tail (.tail (.tail .head))))) | exact .tail (.tail (.tail (.tail (.tail (.tail (.tail .head)))))))) | exact .done (by repeat (first | exact .refl | apply Drop.skip)))))

theorem rAccept_spec (a : Option Addr) (c : Nat) (r : List (Int × Int)) (id w : Int) (hr : r.length ≤ 1000000) (hk : ROk r) : FnS Try.prog 22 [.slice a r.length c, U64 id, I64 w] [places (.slice a r.length c) r] (fun u Bs => ∃ a' c', u = .tuple #[.slice a' (accR r id w).length c', I64 (accE r id w)] ∧ Bs = [places (.slice a' (accR r id w).length c') (accR r id w)]) := by
  refine fn_body Try.func22 rfl rfl rfl ?_
  intro W0 R
  simp only [List.zipIdx_cons, List.zipIdx_nil, List.map_cons, List.map_nil, Nat.zero_add, Nat.reduceAdd, List.cons_append, List.nil_append]
  refine g_seq ?_
  refine g_region ?_
  refine gl_v rfl (o_assign rfl) ?_
  refine gl_v rfl (o_assign rfl) ?_
  refine gl_nil ?_
  refine ge_then ?_
  refine g_seq ?_
  refine g_seq ?_
  refine g_region ?_
  refine gl_v rfl (o_move rfl) ?_
  refine gl_c rfl (o_call rfl (rholds_spec _) (by repeat (first | exact .nil | (apply Part.cons; · (first | exact .head | exact .tail .head | exact .tail (.tail .head) | exact .tail (.tail (.tail .head)) | exact .tail (.tail (.tail (.tail .head))) | exact .tail (.tail (.tail (.tail (.tail .head)))) | exact .tail (.tail (.tail (.tail (.tail (.tail .head))))) | exact .tail (.tail (.tail (.tail (.tail (.tail (.tail .head))))))))))) ?_
  rintro _ _ ⟨_, ⟨rfl, rfl⟩, rfl⟩
  simp only [List.cons_append, List.nil_append]
  refine gl_v rfl (o_not rfl) ?_
  refine gl_nil ?_
  refine ge_then ?_
  refine g_cond rfl (fun hc1 => ?_) (fun hc1 => ?_)
  ·
    first | replace hc1 := of_decide_eq_true hc1 | replace hc1 := lt_f hc1 | replace hc1 := le_f hc1 | replace hc1 := dec_f hc1 | replace hc1 := nlt_t hc1 | replace hc1 := nle_t hc1 | replace hc1 := ndec_t hc1 | replace hc1 := ndec_f hc1 | replace hc1 := nn_t hc1 | replace hc1 := nn_f hc1 | skip
    have hh : hl w = false := by simpa [hl] using hc1
    refine g_seq ?_
    refine g_region ?_
    refine gl_v rfl (o_move rfl) ?_
    refine gl_v rfl (o_assign rfl) ?_
    refine gl_v rfl (o_assign rfl) ?_
    refine gl_nil ?_
    refine ge_then ?_
    refine g_ret ?_
    refine ge_then_ret ?_
    refine ret2 (.inl rfl) rfl rfl rfl _ (⟨a, c, by rw [show accR r id w = r by simp [accR, hh], show accE r id w = 1 by simp [accE, hh]], by rw [show accR r id w = r by simp [accR, hh]]⟩) (To.sat (by repeat (first | exact .nil | exact .done .refl | (apply To.cons; · (first | exact .head | exact .tail .head | exact .tail (.tail .head) | exact .tail (.tail (.tail .head)) | exact .tail (.tail (.tail (.tail .head))) | exact .tail (.tail (.tail (.tail (.tail .head)))) | exact .tail (.tail (.tail (.tail (.tail (.tail .head))))) | exact .tail (.tail (.tail (.tail (.tail (.tail (.tail .head)))))))) | exact .done (by repeat (first | exact .refl | apply Drop.skip)))))
  ·
    first | replace hc1 := of_decide_eq_true hc1 | replace hc1 := lt_f hc1 | replace hc1 := le_f hc1 | replace hc1 := dec_f hc1 | replace hc1 := nlt_t hc1 | replace hc1 := nle_t hc1 | replace hc1 := ndec_t hc1 | replace hc1 := ndec_f hc1 | replace hc1 := nn_t hc1 | replace hc1 := nn_f hc1 | skip
    have hh : hl w = true := by simpa [hl] using hc1
    refine g_skip ?_
    refine ge_then ?_
    refine g_seq ?_
    refine g_seq ?_
    refine g_region ?_
    refine gl_v rfl (o_move rfl) ?_
    refine gl_v rfl (o_move rfl) ?_
    refine gl_c rfl (o_call rfl (rWhere_spec _ _ _ _ hr) (by repeat (first | exact .nil | (apply Part.cons; · (first | exact .head | exact .tail .head | exact .tail (.tail .head) | exact .tail (.tail (.tail .head)) | exact .tail (.tail (.tail (.tail .head))) | exact .tail (.tail (.tail (.tail (.tail .head)))) | exact .tail (.tail (.tail (.tail (.tail (.tail .head))))) | exact .tail (.tail (.tail (.tail (.tail (.tail (.tail .head))))))))))) ?_
    rintro _ _ ⟨_, ⟨rfl, rfl⟩, rfl⟩
    simp only [List.cons_append, List.nil_append]
    refine gl_v rfl (o_neq rfl rfl) ?_
    refine gl_nil ?_
    refine ge_then ?_
    refine g_cond rfl (fun hc2 => ?_) (fun hc2 => ?_)
    ·
      first | replace hc2 := of_decide_eq_true hc2 | replace hc2 := lt_f hc2 | replace hc2 := le_f hc2 | replace hc2 := dec_f hc2 | replace hc2 := nlt_t hc2 | replace hc2 := nle_t hc2 | replace hc2 := ndec_t hc2 | replace hc2 := ndec_f hc2 | replace hc2 := nn_t hc2 | replace hc2 := nn_f hc2 | skip
      refine g_seq ?_
      refine g_region ?_
      refine gl_v rfl (o_move rfl) ?_
      refine gl_v rfl (o_assign rfl) ?_
      refine gl_v rfl (o_assign rfl) ?_
      refine gl_nil ?_
      refine ge_then ?_
      refine g_ret ?_
      refine ge_then_ret ?_
      refine ret2 (.inl rfl) rfl rfl rfl _ (⟨a, c, by rw [show accR r id w = r by simp [accR, hc2], show accE r id w = 3 by simp [accE, hh, hc2]], by rw [show accR r id w = r by simp [accR, hc2]]⟩) (To.sat (by repeat (first | exact .nil | exact .done .refl | (apply To.cons; · (first | exact .head | exact .tail .head | exact .tail (.tail .head) | exact .tail (.tail (.tail .head)) | exact .tail (.tail (.tail (.tail .head))) | exact .tail (.tail (.tail (.tail (.tail .head)))) | exact .tail (.tail (.tail (.tail (.tail (.tail .head))))) | exact .tail (.tail (.tail (.tail (.tail (.tail (.tail .head)))))))) | exact .done (by repeat (first | exact .refl | apply Drop.skip)))))
    ·
      first | replace hc2 := of_decide_eq_true hc2 | replace hc2 := lt_f hc2 | replace hc2 := le_f hc2 | replace hc2 := dec_f hc2 | replace hc2 := nlt_t hc2 | replace hc2 := nle_t hc2 | replace hc2 := ndec_t hc2 | replace hc2 := ndec_f hc2 | replace hc2 := nn_t hc2 | replace hc2 := nn_f hc2 | skip
      have hm : mget r id = none := hk.wh0.1 hc2
      refine g_skip ?_
      refine ge_then ?_
      refine g_seq ?_
      refine g_region ?_
      refine gl_v rfl (o_move rfl) ?_
      refine gl_v rfl (o_move rfl) ?_
      refine gl_c rfl (o_call rfl (rwith_spec _ _ _ _ _ hr) (by repeat (first | exact .nil | (apply Part.cons; · (first | exact .head | exact .tail .head | exact .tail (.tail .head) | exact .tail (.tail (.tail .head)) | exact .tail (.tail (.tail (.tail .head))) | exact .tail (.tail (.tail (.tail (.tail .head)))) | exact .tail (.tail (.tail (.tail (.tail (.tail .head))))) | exact .tail (.tail (.tail (.tail (.tail (.tail (.tail .head))))))))))) ?_
      rintro _ _ ⟨_, ⟨a1, c1, rfl, rfl⟩, rfl⟩
      simp only [List.cons_append, List.nil_append]
      rw [wth_none hm]
      refine gl_v rfl (o_move rfl) ?_
      refine gl_v rfl (o_move rfl) ?_
      refine gl_v rfl (o_build rfl rfl) ?_
      first | refine gl_n rfl (o_buildS1 rfl rfl rfl) ?_ | refine gl_n rfl (o_buildS1A rfl rfl rfl rfl) ?_ | refine gl_n rfl (o_buildS rfl rfl rfl rfl) ?_
      rintro _ _ ⟨b23, rfl, rfl⟩
      refine gl_n rfl (o_append rfl rfl (by repeat (first | exact .nil | (apply Part.cons; · (first | exact .head | exact .tail .head | exact .tail (.tail .head) | exact .tail (.tail (.tail .head)) | exact .tail (.tail (.tail (.tail .head))) | exact .tail (.tail (.tail (.tail (.tail .head)))) | exact .tail (.tail (.tail (.tail (.tail (.tail .head))))) | exact .tail (.tail (.tail (.tail (.tail (.tail (.tail .head)))))))))) rfl rfl rfl (by omega) (by unfold maxLen; omega)) ?_
      rintro _ _ ⟨a24, c24, rfl, rfl⟩
      refine gl_v rfl (o_assign rfl) ?_
      refine gl_v rfl (o_assign rfl) ?_
      refine gl_nil ?_
      refine ge_then ?_
      refine g_ret ?_
      refine ret2 (.inl rfl) rfl rfl rfl [places (.slice a24 (accR r id w).length c24) (accR r id w)] (⟨a24, c24, by rw [show accR r id w = r ++ [(id, w)] by simp [accR, hh, hc2], show accE r id w = 0 by simp [accE, hh, hc2], List.length_append]; rfl, rfl⟩) (by rw [show accR r id w = r ++ [(id, w)] by simp [accR, hh, hc2]]; unfold places; rw [pl_snoc, List.length_append]; exact (To.sat (by repeat (first | exact .nil | exact .done .refl | (apply To.cons; · (first | exact .head | exact .tail .head | exact .tail (.tail .head) | exact .tail (.tail (.tail .head)) | exact .tail (.tail (.tail (.tail .head))) | exact .tail (.tail (.tail (.tail (.tail .head)))) | exact .tail (.tail (.tail (.tail (.tail (.tail .head))))) | exact .tail (.tail (.tail (.tail (.tail (.tail (.tail .head)))))))) | exact .done (by repeat (first | exact .refl | apply Drop.skip))))))

theorem alive_spec : FnS Try.prog 7 [] [] (fun u Bs => u = .bool true ∧ Bs = []) := by
  refine fn_body Try.func7 rfl rfl rfl ?_
  intro W0 R
  simp only [List.zipIdx_cons, List.zipIdx_nil, List.map_cons, List.map_nil, Nat.zero_add, Nat.reduceAdd, List.cons_append, List.nil_append]
  refine g_seq ?_
  refine g_region ?_
  refine gl_v rfl (o_assign rfl) ?_
  refine gl_nil ?_
  refine ge_then ?_
  refine g_seq ?_
  refine g_region ?_
  refine gl_c rfl (o_call rfl (New_spec) (by repeat (first | exact .nil | (apply Part.cons; · (first | exact .head | exact .tail .head | exact .tail (.tail .head) | exact .tail (.tail (.tail .head)) | exact .tail (.tail (.tail (.tail .head))) | exact .tail (.tail (.tail (.tail (.tail .head)))) | exact .tail (.tail (.tail (.tail (.tail (.tail .head))))) | exact .tail (.tail (.tail (.tail (.tail (.tail (.tail .head))))))))))) ?_
  rintro _ _ ⟨_, ⟨p, rfl, rfl⟩, rfl⟩
  simp only [List.cons_append, List.nil_append]
  refine gl_v rfl (o_assign rfl) ?_
  refine gl_nil ?_
  refine ge_then ?_
  refine g_seq ?_
  refine g_seq ?_
  refine g_region ?_
  refine gl_v rfl (o_move rfl) ?_
  refine gl_v rfl (o_eqlPn rfl rfl) ?_
  refine gl_v rfl (o_move rfl) ?_
  refine gl_gT rfl rfl rfl ?_
  refine gl_v rfl (o_move rfl) ?_
  refine gl_gT rfl rfl rfl ?_
  refine gl_c rfl (o_call rfl ((Accept_spec _ [] 5 1 (by decide) (by refine ⟨?_, ?_⟩ <;> decide)).mono (fun u Bs h => (h : u = I64 0 ∧ Bs = [ledger p [(5, 1)]]))) (by repeat (first | exact .nil | (apply Part.cons; · (first | exact .head | exact .tail .head | exact .tail (.tail .head) | exact .tail (.tail (.tail .head)) | exact .tail (.tail (.tail (.tail .head))) | exact .tail (.tail (.tail (.tail (.tail .head)))) | exact .tail (.tail (.tail (.tail (.tail (.tail .head))))) | exact .tail (.tail (.tail (.tail (.tail (.tail (.tail .head))))))))))) ?_
  rintro _ _ ⟨_, ⟨rfl, rfl⟩, rfl⟩
  simp only [List.cons_append, List.nil_append]
  refine gl_gT rfl rfl rfl ?_
  refine gl_v rfl (o_neq rfl rfl) ?_
  refine gl_v rfl (o_pickF rfl rfl rfl) ?_
  refine gl_v rfl (o_move rfl) ?_
  refine gl_gT rfl rfl rfl ?_
  refine gl_v rfl (o_move rfl) ?_
  refine gl_gT rfl rfl rfl ?_
  refine gl_c rfl (o_call rfl ((Move_spec _ [(5, 1)] 5 2 (by decide)).mono (fun u Bs h => (h : u = I64 0 ∧ Bs = [ledger p [(5, 2)]]))) (by repeat (first | exact .nil | (apply Part.cons; · (first | exact .head | exact .tail .head | exact .tail (.tail .head) | exact .tail (.tail (.tail .head)) | exact .tail (.tail (.tail (.tail .head))) | exact .tail (.tail (.tail (.tail (.tail .head)))) | exact .tail (.tail (.tail (.tail (.tail (.tail .head))))) | exact .tail (.tail (.tail (.tail (.tail (.tail (.tail .head))))))))))) ?_
  rintro _ _ ⟨_, ⟨rfl, rfl⟩, rfl⟩
  simp only [List.cons_append, List.nil_append]
  refine gl_gT rfl rfl rfl ?_
  refine gl_v rfl (o_neq rfl rfl) ?_
  refine gl_v rfl (o_pickF rfl rfl rfl) ?_
  refine gl_v rfl (o_move rfl) ?_
  refine gl_gT rfl rfl rfl ?_
  refine gl_v rfl (o_move rfl) ?_
  refine gl_gT rfl rfl rfl ?_
  refine gl_c rfl (o_call rfl ((Start_spec _ [(5, 2)] 5 (by decide)).mono (fun u Bs h => (h : u = I64 0 ∧ Bs = [ledger p [(5, 7)]]))) (by repeat (first | exact .nil | (apply Part.cons; · (first | exact .head | exact .tail .head | exact .tail (.tail .head) | exact .tail (.tail (.tail .head)) | exact .tail (.tail (.tail (.tail .head))) | exact .tail (.tail (.tail (.tail (.tail .head)))) | exact .tail (.tail (.tail (.tail (.tail (.tail .head))))) | exact .tail (.tail (.tail (.tail (.tail (.tail (.tail .head))))))))))) ?_
  rintro _ _ ⟨_, ⟨rfl, rfl⟩, rfl⟩
  simp only [List.cons_append, List.nil_append]
  refine gl_gT rfl rfl rfl ?_
  refine gl_v rfl (o_neq rfl rfl) ?_
  refine gl_v rfl (o_pickF rfl rfl rfl) ?_
  refine gl_v rfl (o_move rfl) ?_
  refine gl_gT rfl rfl rfl ?_
  refine gl_v rfl (o_move rfl) ?_
  refine gl_gT rfl rfl rfl ?_
  refine gl_c rfl (o_call rfl ((Kill_spec _ [(5, 7)] 5 (by decide)).mono (fun u Bs h => (h : u = I64 2 ∧ Bs = [ledger p [(5, 7)]]))) (by repeat (first | exact .nil | (apply Part.cons; · (first | exact .head | exact .tail .head | exact .tail (.tail .head) | exact .tail (.tail (.tail .head)) | exact .tail (.tail (.tail (.tail .head))) | exact .tail (.tail (.tail (.tail (.tail .head)))) | exact .tail (.tail (.tail (.tail (.tail (.tail .head))))) | exact .tail (.tail (.tail (.tail (.tail (.tail (.tail .head))))))))))) ?_
  rintro _ _ ⟨_, ⟨rfl, rfl⟩, rfl⟩
  simp only [List.cons_append, List.nil_append]
  refine gl_gT rfl rfl rfl ?_
  refine gl_v rfl (o_neq rfl rfl) ?_
  refine gl_v rfl (o_pickF rfl rfl rfl) ?_
  refine gl_v rfl (o_move rfl) ?_
  refine gl_gT rfl rfl rfl ?_
  refine gl_v rfl (o_move rfl) ?_
  refine gl_gT rfl rfl rfl ?_
  refine gl_c rfl (o_call rfl ((Accept_spec _ [(5, 7)] 5 1 (by decide) (by refine ⟨?_, ?_⟩ <;> decide)).mono (fun u Bs h => (h : u = I64 3 ∧ Bs = [ledger p [(5, 7)]]))) (by repeat (first | exact .nil | (apply Part.cons; · (first | exact .head | exact .tail .head | exact .tail (.tail .head) | exact .tail (.tail (.tail .head)) | exact .tail (.tail (.tail (.tail .head))) | exact .tail (.tail (.tail (.tail (.tail .head)))) | exact .tail (.tail (.tail (.tail (.tail (.tail .head))))) | exact .tail (.tail (.tail (.tail (.tail (.tail (.tail .head))))))))))) ?_
  rintro _ _ ⟨_, ⟨rfl, rfl⟩, rfl⟩
  simp only [List.cons_append, List.nil_append]
  refine gl_gT rfl rfl rfl ?_
  refine gl_v rfl (o_neq rfl rfl) ?_
  refine gl_v rfl (o_pickF rfl rfl rfl) ?_
  refine gl_v rfl (o_move rfl) ?_
  refine gl_gT rfl rfl rfl ?_
  refine gl_v rfl (o_move rfl) ?_
  refine gl_gT rfl rfl rfl ?_
  refine gl_c rfl (o_call rfl ((Accept_spec _ [(5, 7)] 6 7 (by decide) (by refine ⟨?_, ?_⟩ <;> decide)).mono (fun u Bs h => (h : u = I64 1 ∧ Bs = [ledger p [(5, 7)]]))) (by repeat (first | exact .nil | (apply Part.cons; · (first | exact .head | exact .tail .head | exact .tail (.tail .head) | exact .tail (.tail (.tail .head)) | exact .tail (.tail (.tail (.tail .head))) | exact .tail (.tail (.tail (.tail (.tail .head)))) | exact .tail (.tail (.tail (.tail (.tail (.tail .head))))) | exact .tail (.tail (.tail (.tail (.tail (.tail (.tail .head))))))))))) ?_
  rintro _ _ ⟨_, ⟨rfl, rfl⟩, rfl⟩
  simp only [List.cons_append, List.nil_append]
  refine gl_gT rfl rfl rfl ?_
  refine gl_v rfl (o_neq rfl rfl) ?_
  refine gl_v rfl (o_pickF rfl rfl rfl) ?_
  refine gl_v rfl (o_move rfl) ?_
  refine gl_gT rfl rfl rfl ?_
  refine gl_v rfl (o_move rfl) ?_
  refine gl_gT rfl rfl rfl ?_
  refine gl_c rfl (o_call rfl ((Accept_spec _ [(5, 7)] 6 3 (by decide) (by refine ⟨?_, ?_⟩ <;> decide)).mono (fun u Bs h => (h : u = I64 0 ∧ Bs = [ledger p [(5, 7), (6, 3)]]))) (by repeat (first | exact .nil | (apply Part.cons; · (first | exact .head | exact .tail .head | exact .tail (.tail .head) | exact .tail (.tail (.tail .head)) | exact .tail (.tail (.tail (.tail .head))) | exact .tail (.tail (.tail (.tail (.tail .head)))) | exact .tail (.tail (.tail (.tail (.tail (.tail .head))))) | exact .tail (.tail (.tail (.tail (.tail (.tail (.tail .head))))))))))) ?_
  rintro _ _ ⟨_, ⟨rfl, rfl⟩, rfl⟩
  simp only [List.cons_append, List.nil_append]
  refine gl_gT rfl rfl rfl ?_
  refine gl_v rfl (o_neq rfl rfl) ?_
  refine gl_v rfl (o_pickF rfl rfl rfl) ?_
  refine gl_nil ?_
  refine ge_then ?_
  refine g_cond_false (rfl) ?_
  refine g_skip ?_
  refine ge_then ?_
  refine g_seq ?_
  refine g_region ?_
  refine gl_v rfl (o_move rfl) ?_
  refine gl_c rfl (o_call rfl ((Held_spec _ [(5, 7), (6, 3)] (by decide) (by refine ⟨?_, ?_⟩ <;> decide)).mono (fun u Bs h => (h : ∃ a' c', u = .slice a' 1 c' ∧ Bs = [places (.slice a' 1 c') [(6, 3)], ledger p [(5, 7), (6, 3)]]))) (by repeat (first | exact .nil | (apply Part.cons; · (first | exact .head | exact .tail .head | exact .tail (.tail .head) | exact .tail (.tail (.tail .head)) | exact .tail (.tail (.tail (.tail .head))) | exact .tail (.tail (.tail (.tail (.tail .head)))) | exact .tail (.tail (.tail (.tail (.tail (.tail .head))))) | exact .tail (.tail (.tail (.tail (.tail (.tail (.tail .head))))))))))) ?_
  rintro _ _ ⟨_, ⟨a3, c3, rfl, rfl⟩, rfl⟩
  simp only [List.cons_append, List.nil_append]
  refine gl_v rfl (o_assign rfl) ?_
  refine gl_nil ?_
  refine ge_then ?_
  refine g_seq ?_
  refine g_region ?_
  refine gl_v rfl (o_move rfl) ?_
  refine gl_c rfl (o_call rfl ((Where_spec _ [(5, 7), (6, 3)] 5).mono (fun u Bs h => (h : u = I64 7 ∧ Bs = [ledger p [(5, 7), (6, 3)]]))) (by repeat (first | exact .nil | (apply Part.cons; · (first | exact .head | exact .tail .head | exact .tail (.tail .head) | exact .tail (.tail (.tail .head)) | exact .tail (.tail (.tail (.tail .head))) | exact .tail (.tail (.tail (.tail (.tail .head)))) | exact .tail (.tail (.tail (.tail (.tail (.tail .head))))) | exact .tail (.tail (.tail (.tail (.tail (.tail (.tail .head))))))))))) ?_
  rintro _ _ ⟨_, ⟨rfl, rfl⟩, rfl⟩
  simp only [List.cons_append, List.nil_append]
  refine gl_v rfl (o_eql rfl rfl) ?_
  refine gl_v rfl (o_move rfl) ?_
  refine gl_gT rfl rfl rfl ?_
  refine gl_v rfl (o_move rfl) ?_
  refine gl_gT rfl rfl rfl ?_
  refine gl_c rfl (o_call rfl ((Count_spec _ [(5, 7), (6, 3)] 3).mono (fun u Bs h => (h : u = I64 1 ∧ Bs = [ledger p [(5, 7), (6, 3)]]))) (by repeat (first | exact .nil | (apply Part.cons; · (first | exact .head | exact .tail .head | exact .tail (.tail .head) | exact .tail (.tail (.tail .head)) | exact .tail (.tail (.tail (.tail .head))) | exact .tail (.tail (.tail (.tail (.tail .head)))) | exact .tail (.tail (.tail (.tail (.tail (.tail .head))))) | exact .tail (.tail (.tail (.tail (.tail (.tail (.tail .head))))))))))) ?_
  rintro _ _ ⟨_, ⟨rfl, rfl⟩, rfl⟩
  simp only [List.cons_append, List.nil_append]
  refine gl_gT rfl rfl rfl ?_
  refine gl_v rfl (o_eql rfl rfl) ?_
  refine gl_v rfl (o_pickT rfl rfl rfl) ?_
  refine gl_v rfl (o_move rfl) ?_
  refine gl_gT rfl rfl rfl ?_
  refine gl_v rfl (o_move rfl) ?_
  refine gl_gT rfl rfl rfl ?_
  refine gl_v rfl (o_len rfl) ?_
  refine gl_gT rfl rfl rfl ?_
  refine gl_v rfl (o_eql rfl rfl) ?_
  refine gl_v rfl (o_pickT rfl rfl rfl) ?_
  refine gl_v rfl (o_move rfl) ?_
  refine gl_gT rfl rfl rfl ?_
  refine gl_v rfl (o_move rfl) ?_
  refine gl_gT rfl rfl rfl ?_
  refine gl_v rfl (o_idxS (j := 0) rfl rfl (by decide)) ?_
  refine gl_gT rfl rfl rfl ?_
  refine gl_v rfl (o_loadSA rfl (vs := [U64 6, I64 3]) rfl rfl) ?_
  refine gl_gT rfl rfl rfl ?_
  refine gl_v rfl (o_build rfl rfl) ?_
  refine gl_gT rfl rfl rfl ?_
  refine gl_v rfl (o_eqlA rfl rfl rfl rfl) ?_
  refine gl_v rfl (o_pickT rfl rfl rfl) ?_
  refine gl_v rfl (o_assign rfl) ?_
  refine gl_nil ?_
  refine ge_then ?_
  refine g_ret ?_
  refine ret1 (.inl rfl) rfl rfl _ (⟨rfl, rfl⟩) (To.sat (by repeat (first | exact .nil | exact .done .refl | (apply To.cons; · (first | exact .head | exact .tail .head | exact .tail (.tail .head) | exact .tail (.tail (.tail .head)) | exact .tail (.tail (.tail (.tail .head))) | exact .tail (.tail (.tail (.tail (.tail .head)))) | exact .tail (.tail (.tail (.tail (.tail (.tail .head))))) | exact .tail (.tail (.tail (.tail (.tail (.tail (.tail .head)))))))) | exact .done (by repeat (first | exact .refl | apply Drop.skip)))))

/-- one call, by its kind modulo 4 -/
def callR (r : List (Int × Int)) (q : Int × Int × Int) : List (Int × Int) :=
  if q.1 % 4 = 0 then accR r q.2.1 q.2.2 else if q.1 % 4 = 1 then movR r q.2.1 q.2.2 else if q.1 % 4 = 2 then fromR r q.2.1 7 else fromR r q.2.1 8
def callE (r : List (Int × Int)) (q : Int × Int × Int) : Int :=
  if q.1 % 4 = 0 then accE r q.2.1 q.2.2 else if q.1 % 4 = 1 then movE r q.2.1 q.2.2 else fromE r q.2.1
def doesR (r : List (Int × Int)) (q : Int × Int × Int) : List (Int × Int) :=
  if q.1 % 5 = 0 then accR r q.2.1 q.2.2 else if q.1 % 5 = 1 then movR r q.2.1 q.2.2 else if q.1 % 5 = 2 then fromR r q.2.1 7 else if q.1 % 5 = 3 then fromR r q.2.1 8 else r
def oe (q : Int × Int × Int) : List Value := [.int .u8 q.1, U64 q.2.1, I64 q.2.2]

theorem call_spec (p : Nat) (r : List (Int × Int)) (q : Int × Int × Int) (hq0 : 0 ≤ q.1) (hr : r.length ≤ 1000000) (hk : ROk r) : FnS Try.prog 17 [ptr p 0, (.agg (oe q).toArray)] [ledger p r] (fun u Bs => u = I64 (callE r q) ∧ Bs = [ledger p (callR r q)]) := by
  refine fn_body Try.func17 rfl rfl rfl ?_
  intro W0 R
  simp only [List.zipIdx_cons, List.zipIdx_nil, List.map_cons, List.map_nil, Nat.zero_add, Nat.reduceAdd, List.cons_append, List.nil_append]
  refine g_seq ?_
  refine g_region ?_
  refine gl_n rfl (o_boxA rfl) ?_
  rintro _ _ ⟨b3, rfl, rfl⟩
  refine gl_v rfl (o_assign rfl) ?_
  refine gl_nil ?_
  refine ge_then ?_
  refine g_seq ?_
  refine g_seq ?_
  refine g_region ?_
  first | refine gl_v rfl (o_fldS rfl) ?_ | refine gl_v rfl (o_fld rfl) ?_
  first | refine gl_v rfl (o_load rfl rfl) ?_ | refine gl_v rfl (o_loadS rfl rfl) ?_
  refine gl_v rfl (o_remR (q.1 % 4) (Int.tmod_eq_emod_of_nonneg hq0) rfl rfl (by decide)) ?_
  refine gl_nil ?_
  refine ge_then ?_
  refine g_block ?_
  refine g_seq ?_
  refine g_region ?_
  refine gl_v rfl (o_eql rfl rfl) ?_
  refine gl_v rfl (o_assign rfl) ?_
  refine gl_nil ?_
  refine ge_then ?_
  refine g_cond rfl (fun hc1 => ?_) (fun hc1 => ?_)
  ·
    first | replace hc1 := of_decide_eq_true hc1 | replace hc1 := lt_f hc1 | replace hc1 := le_f hc1 | replace hc1 := dec_f hc1 | replace hc1 := nlt_t hc1 | replace hc1 := nle_t hc1 | replace hc1 := ndec_t hc1 | replace hc1 := ndec_f hc1 | replace hc1 := nn_t hc1 | replace hc1 := nn_f hc1 | skip
    refine g_seq ?_
    refine g_region ?_
    refine gl_v rfl (o_move rfl) ?_
    first | refine gl_v rfl (o_fldS rfl) ?_ | refine gl_v rfl (o_fld rfl) ?_
    first | refine gl_v rfl (o_load rfl rfl) ?_ | refine gl_v rfl (o_loadS rfl rfl) ?_
    first | refine gl_v rfl (o_fldS rfl) ?_ | refine gl_v rfl (o_fld rfl) ?_
    first | refine gl_v rfl (o_load rfl rfl) ?_ | refine gl_v rfl (o_loadS rfl rfl) ?_
    refine gl_c rfl (o_call rfl (Accept_spec _ _ _ _ hr hk) (by repeat (first | exact .nil | (apply Part.cons; · (first | exact .head | exact .tail .head | exact .tail (.tail .head) | exact .tail (.tail (.tail .head)) | exact .tail (.tail (.tail (.tail .head))) | exact .tail (.tail (.tail (.tail (.tail .head)))) | exact .tail (.tail (.tail (.tail (.tail (.tail .head))))) | exact .tail (.tail (.tail (.tail (.tail (.tail (.tail .head))))))))))) ?_
    rintro _ _ ⟨_, ⟨rfl, rfl⟩, rfl⟩
    simp only [List.cons_append, List.nil_append]
    refine gl_v rfl (o_assign rfl) ?_
    refine gl_nil ?_
    refine ge_then ?_
    refine g_ret ?_
    refine ge_block_ret ?_
    refine ge_then_ret ?_
    refine ret1 (.inl rfl) rfl rfl [ledger p (callR r q)] (⟨by rw [show callE r q = accE r q.2.1 q.2.2 by simp [callE, *]], rfl⟩) (by rw [show callR r q = accR r q.2.1 q.2.2 by simp [callR, *]]; exact (To.sat (by repeat (first | exact .nil | exact .done .refl | (apply To.cons; · (first | exact .head | exact .tail .head | exact .tail (.tail .head) | exact .tail (.tail (.tail .head)) | exact .tail (.tail (.tail (.tail .head))) | exact .tail (.tail (.tail (.tail (.tail .head)))) | exact .tail (.tail (.tail (.tail (.tail (.tail .head))))) | exact .tail (.tail (.tail (.tail (.tail (.tail (.tail .head)))))))) | exact .done (by repeat (first | exact .refl | apply Drop.skip))))))
  ·
    first | replace hc1 := of_decide_eq_true hc1 | replace hc1 := lt_f hc1 | replace hc1 := le_f hc1 | replace hc1 := dec_f hc1 | replace hc1 := nlt_t hc1 | replace hc1 := nle_t hc1 | replace hc1 := ndec_t hc1 | replace hc1 := ndec_f hc1 | replace hc1 := nn_t hc1 | replace hc1 := nn_f hc1 | skip
    refine g_seq ?_
    refine g_region ?_
    refine gl_v rfl (o_eql rfl rfl) ?_
    refine gl_v rfl (o_assign rfl) ?_
    refine gl_nil ?_
    refine ge_then ?_
    refine g_cond rfl (fun hc2 => ?_) (fun hc2 => ?_)
    ·
      first | replace hc2 := of_decide_eq_true hc2 | replace hc2 := lt_f hc2 | replace hc2 := le_f hc2 | replace hc2 := dec_f hc2 | replace hc2 := nlt_t hc2 | replace hc2 := nle_t hc2 | replace hc2 := ndec_t hc2 | replace hc2 := ndec_f hc2 | replace hc2 := nn_t hc2 | replace hc2 := nn_f hc2 | skip
      refine g_seq ?_
      refine g_region ?_
      refine gl_v rfl (o_move rfl) ?_
      first | refine gl_v rfl (o_fldS rfl) ?_ | refine gl_v rfl (o_fld rfl) ?_
      first | refine gl_v rfl (o_load rfl rfl) ?_ | refine gl_v rfl (o_loadS rfl rfl) ?_
      first | refine gl_v rfl (o_fldS rfl) ?_ | refine gl_v rfl (o_fld rfl) ?_
      first | refine gl_v rfl (o_load rfl rfl) ?_ | refine gl_v rfl (o_loadS rfl rfl) ?_
      refine gl_c rfl (o_call rfl (Move_spec _ _ _ _ hr) (by repeat (first | exact .nil | (apply Part.cons; · (first | exact .head | exact .tail .head | exact .tail (.tail .head) | exact .tail (.tail (.tail .head)) | exact .tail (.tail (.tail (.tail .head))) | exact .tail (.tail (.tail (.tail (.tail .head)))) | exact .tail (.tail (.tail (.tail (.tail (.tail .head))))) | exact .tail (.tail (.tail (.tail (.tail (.tail (.tail .head))))))))))) ?_
      rintro _ _ ⟨_, ⟨rfl, rfl⟩, rfl⟩
      simp only [List.cons_append, List.nil_append]
      refine gl_v rfl (o_assign rfl) ?_
      refine gl_nil ?_
      refine ge_then ?_
      refine g_ret ?_
      refine ge_block_ret ?_
      refine ge_then_ret ?_
      refine ret1 (.inl rfl) rfl rfl [ledger p (callR r q)] (⟨by rw [show callE r q = movE r q.2.1 q.2.2 by simp [callE, *]], rfl⟩) (by rw [show callR r q = movR r q.2.1 q.2.2 by simp [callR, *]]; exact (To.sat (by repeat (first | exact .nil | exact .done .refl | (apply To.cons; · (first | exact .head | exact .tail .head | exact .tail (.tail .head) | exact .tail (.tail (.tail .head)) | exact .tail (.tail (.tail (.tail .head))) | exact .tail (.tail (.tail (.tail (.tail .head)))) | exact .tail (.tail (.tail (.tail (.tail (.tail .head))))) | exact .tail (.tail (.tail (.tail (.tail (.tail (.tail .head)))))))) | exact .done (by repeat (first | exact .refl | apply Drop.skip))))))
    ·
      first | replace hc2 := of_decide_eq_true hc2 | replace hc2 := lt_f hc2 | replace hc2 := le_f hc2 | replace hc2 := dec_f hc2 | replace hc2 := nlt_t hc2 | replace hc2 := nle_t hc2 | replace hc2 := ndec_t hc2 | replace hc2 := ndec_f hc2 | replace hc2 := nn_t hc2 | replace hc2 := nn_f hc2 | skip
      refine g_seq ?_
      refine g_region ?_
      refine gl_v rfl (o_eql rfl rfl) ?_
      refine gl_v rfl (o_assign rfl) ?_
      refine gl_nil ?_
      refine ge_then ?_
      refine g_cond rfl (fun hc3 => ?_) (fun hc3 => ?_)
      ·
        first | replace hc3 := of_decide_eq_true hc3 | replace hc3 := lt_f hc3 | replace hc3 := le_f hc3 | replace hc3 := dec_f hc3 | replace hc3 := nlt_t hc3 | replace hc3 := nle_t hc3 | replace hc3 := ndec_t hc3 | replace hc3 := ndec_f hc3 | replace hc3 := nn_t hc3 | replace hc3 := nn_f hc3 | skip
        refine g_seq ?_
        refine g_region ?_
        refine gl_v rfl (o_move rfl) ?_
        first | refine gl_v rfl (o_fldS rfl) ?_ | refine gl_v rfl (o_fld rfl) ?_
        first | refine gl_v rfl (o_load rfl rfl) ?_ | refine gl_v rfl (o_loadS rfl rfl) ?_
        refine gl_c rfl (o_call rfl (Start_spec _ _ _ hr) (by repeat (first | exact .nil | (apply Part.cons; · (first | exact .head | exact .tail .head | exact .tail (.tail .head) | exact .tail (.tail (.tail .head)) | exact .tail (.tail (.tail (.tail .head))) | exact .tail (.tail (.tail (.tail (.tail .head)))) | exact .tail (.tail (.tail (.tail (.tail (.tail .head))))) | exact .tail (.tail (.tail (.tail (.tail (.tail (.tail .head))))))))))) ?_
        rintro _ _ ⟨_, ⟨rfl, rfl⟩, rfl⟩
        simp only [List.cons_append, List.nil_append]
        refine gl_v rfl (o_assign rfl) ?_
        refine gl_nil ?_
        refine ge_then ?_
        refine g_ret ?_
        refine ge_block_ret ?_
        refine ge_then_ret ?_
        refine ret1 (.inl rfl) rfl rfl [ledger p (callR r q)] (⟨by rw [show callE r q = fromE r q.2.1 by simp [callE, *]], rfl⟩) (by rw [show callR r q = fromR r q.2.1 7 by simp [callR, *]]; exact (To.sat (by repeat (first | exact .nil | exact .done .refl | (apply To.cons; · (first | exact .head | exact .tail .head | exact .tail (.tail .head) | exact .tail (.tail (.tail .head)) | exact .tail (.tail (.tail (.tail .head))) | exact .tail (.tail (.tail (.tail (.tail .head)))) | exact .tail (.tail (.tail (.tail (.tail (.tail .head))))) | exact .tail (.tail (.tail (.tail (.tail (.tail (.tail .head)))))))) | exact .done (by repeat (first | exact .refl | apply Drop.skip))))))
      ·
        first | replace hc3 := of_decide_eq_true hc3 | replace hc3 := lt_f hc3 | replace hc3 := le_f hc3 | replace hc3 := dec_f hc3 | replace hc3 := nlt_t hc3 | replace hc3 := nle_t hc3 | replace hc3 := ndec_t hc3 | replace hc3 := ndec_f hc3 | replace hc3 := nn_t hc3 | replace hc3 := nn_f hc3 | skip
        refine g_skip ?_
        refine ge_block ?_
        refine ge_then ?_
        refine g_seq ?_
        refine g_region ?_
        refine gl_v rfl (o_move rfl) ?_
        first | refine gl_v rfl (o_fldS rfl) ?_ | refine gl_v rfl (o_fld rfl) ?_
        first | refine gl_v rfl (o_load rfl rfl) ?_ | refine gl_v rfl (o_loadS rfl rfl) ?_
        refine gl_c rfl (o_call rfl (Kill_spec _ _ _ hr) (by repeat (first | exact .nil | (apply Part.cons; · (first | exact .head | exact .tail .head | exact .tail (.tail .head) | exact .tail (.tail (.tail .head)) | exact .tail (.tail (.tail (.tail .head))) | exact .tail (.tail (.tail (.tail (.tail .head)))) | exact .tail (.tail (.tail (.tail (.tail (.tail .head))))) | exact .tail (.tail (.tail (.tail (.tail (.tail (.tail .head))))))))))) ?_
        rintro _ _ ⟨_, ⟨rfl, rfl⟩, rfl⟩
        simp only [List.cons_append, List.nil_append]
        refine gl_v rfl (o_assign rfl) ?_
        refine gl_nil ?_
        refine ge_then ?_
        refine g_ret ?_
        refine ret1 (.inl rfl) rfl rfl [ledger p (callR r q)] (⟨by rw [show callE r q = fromE r q.2.1 by simp [callE, *]], rfl⟩) (by rw [show callR r q = fromR r q.2.1 8 by simp [callR, *]]; exact (To.sat (by repeat (first | exact .nil | exact .done .refl | (apply To.cons; · (first | exact .head | exact .tail .head | exact .tail (.tail .head) | exact .tail (.tail (.tail .head)) | exact .tail (.tail (.tail (.tail .head))) | exact .tail (.tail (.tail (.tail (.tail .head)))) | exact .tail (.tail (.tail (.tail (.tail (.tail .head))))) | exact .tail (.tail (.tail (.tail (.tail (.tail (.tail .head)))))))) | exact .done (by repeat (first | exact .refl | apply Drop.skip))))))

theorem does_spec (p : Nat) (a : Option Addr) (c : Nat) (r : List (Int × Int)) (q : Int × Int × Int) (hq0 : 0 ≤ q.1) (hr : r.length ≤ 1000000) (hk : ROk r) : FnS Try.prog 9 [ptr p 0, .slice a r.length c, (.agg (oe q).toArray)] [ledger p r, places (.slice a r.length c) r] (fun u Bs => ∃ a' c', u = .tuple #[.slice a' (doesR r q).length c', .bool true] ∧ Bs = [ledger p (doesR r q), places (.slice a' (doesR r q).length c') (doesR r q)]) := by
  refine fn_body Try.func9 rfl rfl rfl ?_
  intro W0 R
  simp only [List.zipIdx_cons, List.zipIdx_nil, List.map_cons, List.map_nil, Nat.zero_add, Nat.reduceAdd, List.cons_append, List.nil_append]
  refine g_seq ?_
  refine g_region ?_
  refine gl_n rfl (o_boxA rfl) ?_
  rintro _ _ ⟨b5, rfl, rfl⟩
  refine gl_v rfl (o_assign rfl) ?_
  refine gl_v rfl (o_assign rfl) ?_
  refine gl_nil ?_
  refine ge_then ?_
  refine g_seq ?_
  refine g_seq ?_
  refine g_region ?_
  first | refine gl_v rfl (o_fldS rfl) ?_ | refine gl_v rfl (o_fld rfl) ?_
  first | refine gl_v rfl (o_load rfl rfl) ?_ | refine gl_v rfl (o_loadS rfl rfl) ?_
  refine gl_v rfl (o_remR (q.1 % 5) (Int.tmod_eq_emod_of_nonneg hq0) rfl rfl (by decide)) ?_
  refine gl_nil ?_
  refine ge_then ?_
  refine g_block ?_
  refine g_seq ?_
  refine g_region ?_
  refine gl_v rfl (o_eql rfl rfl) ?_
  refine gl_v rfl (o_assign rfl) ?_
  refine gl_nil ?_
  refine ge_then ?_
  refine g_cond rfl (fun hc1 => ?_) (fun hc1 => ?_)
  ·
    first | replace hc1 := of_decide_eq_true hc1 | replace hc1 := lt_f hc1 | replace hc1 := le_f hc1 | replace hc1 := dec_f hc1 | replace hc1 := nlt_t hc1 | replace hc1 := nle_t hc1 | replace hc1 := ndec_t hc1 | replace hc1 := ndec_f hc1 | replace hc1 := nn_t hc1 | replace hc1 := nn_f hc1 | skip
    refine g_seq ?_
    refine g_region ?_
    refine gl_v rfl (o_move rfl) ?_
    first | refine gl_v rfl (o_fldS rfl) ?_ | refine gl_v rfl (o_fld rfl) ?_
    first | refine gl_v rfl (o_load rfl rfl) ?_ | refine gl_v rfl (o_loadS rfl rfl) ?_
    first | refine gl_v rfl (o_fldS rfl) ?_ | refine gl_v rfl (o_fld rfl) ?_
    first | refine gl_v rfl (o_load rfl rfl) ?_ | refine gl_v rfl (o_loadS rfl rfl) ?_
    refine gl_c rfl (o_call rfl (rAccept_spec _ _ _ _ _ hr hk) (by repeat (first | exact .nil | (apply Part.cons; · (first | exact .head | exact .tail .head | exact .tail (.tail .head) | exact .tail (.tail (.tail .head)) | exact .tail (.tail (.tail (.tail .head))) | exact .tail (.tail (.tail (.tail (.tail .head)))) | exact .tail (.tail (.tail (.tail (.tail (.tail .head))))) | exact .tail (.tail (.tail (.tail (.tail (.tail (.tail .head))))))))))) ?_
    rintro _ _ ⟨_, ⟨a5, c5, rfl, rfl⟩, rfl⟩
    simp only [List.cons_append, List.nil_append]
    refine gl_v rfl (o_move rfl) ?_
    refine gl_v rfl (o_extract rfl rfl) ?_
    refine gl_v rfl (o_extract rfl rfl) ?_
    refine gl_v rfl (o_assign rfl) ?_
    refine gl_v rfl (o_assign rfl) ?_
    refine gl_nil ?_
    refine ge_then ?_
    refine g_seq ?_
    refine g_region ?_
    refine gl_v rfl (o_move rfl) ?_
    refine gl_v rfl (o_move rfl) ?_
    first | refine gl_v rfl (o_fldS rfl) ?_ | refine gl_v rfl (o_fld rfl) ?_
    first | refine gl_v rfl (o_load rfl rfl) ?_ | refine gl_v rfl (o_loadS rfl rfl) ?_
    first | refine gl_v rfl (o_fldS rfl) ?_ | refine gl_v rfl (o_fld rfl) ?_
    first | refine gl_v rfl (o_load rfl rfl) ?_ | refine gl_v rfl (o_loadS rfl rfl) ?_
    refine gl_c rfl (o_call rfl (Accept_spec _ _ _ _ hr hk) (by repeat (first | exact .nil | (apply Part.cons; · (first | exact .head | exact .tail .head | exact .tail (.tail .head) | exact .tail (.tail (.tail .head)) | exact .tail (.tail (.tail (.tail .head))) | exact .tail (.tail (.tail (.tail (.tail .head)))) | exact .tail (.tail (.tail (.tail (.tail (.tail .head))))) | exact .tail (.tail (.tail (.tail (.tail (.tail (.tail .head))))))))))) ?_
    rintro _ _ ⟨_, ⟨rfl, rfl⟩, rfl⟩
    simp only [List.cons_append, List.nil_append]
    refine gl_v rfl (o_move rfl) ?_
    refine gl_v rfl (o_eql rfl rfl) ?_
    refine gl_v rfl (o_assign rfl) ?_
    refine gl_v rfl (o_assign rfl) ?_
    refine gl_nil ?_
    refine ge_then ?_
    refine g_ret ?_
    refine ge_block_ret ?_
    refine ge_then_ret ?_
    refine ret2 (.inl rfl) rfl rfl rfl [ledger p (doesR r q), places (.slice a5 (doesR r q).length c5) (doesR r q)] (⟨a5, c5, by rw [show doesR r q = accR r q.2.1 q.2.2 by simp [doesR, *]]; simp, rfl⟩) (by rw [show doesR r q = accR r q.2.1 q.2.2 by simp [doesR, *]]; exact (To.sat (by repeat (first | exact .nil | exact .done .refl | (apply To.cons; · (first | exact .head | exact .tail .head | exact .tail (.tail .head) | exact .tail (.tail (.tail .head)) | exact .tail (.tail (.tail (.tail .head))) | exact .tail (.tail (.tail (.tail (.tail .head)))) | exact .tail (.tail (.tail (.tail (.tail (.tail .head))))) | exact .tail (.tail (.tail (.tail (.tail (.tail (.tail .head)))))))) | exact .done (by repeat (first | exact .refl | apply Drop.skip))))))
  ·
    first | replace hc1 := of_decide_eq_true hc1 | replace hc1 := lt_f hc1 | replace hc1 := le_f hc1 | replace hc1 := dec_f hc1 | replace hc1 := nlt_t hc1 | replace hc1 := nle_t hc1 | replace hc1 := ndec_t hc1 | replace hc1 := ndec_f hc1 | replace hc1 := nn_t hc1 | replace hc1 := nn_f hc1 | skip
    refine g_seq ?_
    refine g_region ?_
    refine gl_v rfl (o_eql rfl rfl) ?_
    refine gl_v rfl (o_assign rfl) ?_
    refine gl_nil ?_
    refine ge_then ?_
    refine g_cond rfl (fun hc2 => ?_) (fun hc2 => ?_)
    ·
      first | replace hc2 := of_decide_eq_true hc2 | replace hc2 := lt_f hc2 | replace hc2 := le_f hc2 | replace hc2 := dec_f hc2 | replace hc2 := nlt_t hc2 | replace hc2 := nle_t hc2 | replace hc2 := ndec_t hc2 | replace hc2 := ndec_f hc2 | replace hc2 := nn_t hc2 | replace hc2 := nn_f hc2 | skip
      refine g_seq ?_
      refine g_region ?_
      refine gl_v rfl (o_move rfl) ?_
      first | refine gl_v rfl (o_fldS rfl) ?_ | refine gl_v rfl (o_fld rfl) ?_
      first | refine gl_v rfl (o_load rfl rfl) ?_ | refine gl_v rfl (o_loadS rfl rfl) ?_
      first | refine gl_v rfl (o_fldS rfl) ?_ | refine gl_v rfl (o_fld rfl) ?_
      first | refine gl_v rfl (o_load rfl rfl) ?_ | refine gl_v rfl (o_loadS rfl rfl) ?_
      refine gl_c rfl (o_call rfl (rMove_spec _ _ _ _ _ hr hk) (by repeat (first | exact .nil | (apply Part.cons; · (first | exact .head | exact .tail .head | exact .tail (.tail .head) | exact .tail (.tail (.tail .head)) | exact .tail (.tail (.tail (.tail .head))) | exact .tail (.tail (.tail (.tail (.tail .head)))) | exact .tail (.tail (.tail (.tail (.tail (.tail .head))))) | exact .tail (.tail (.tail (.tail (.tail (.tail (.tail .head))))))))))) ?_
      rintro _ _ ⟨_, ⟨a5, c5, rfl, rfl⟩, rfl⟩
      simp only [List.cons_append, List.nil_append]
      refine gl_v rfl (o_move rfl) ?_
      refine gl_v rfl (o_extract rfl rfl) ?_
      refine gl_v rfl (o_extract rfl rfl) ?_
      refine gl_v rfl (o_assign rfl) ?_
      refine gl_v rfl (o_assign rfl) ?_
      refine gl_nil ?_
      refine ge_then ?_
      refine g_seq ?_
      refine g_region ?_
      refine gl_v rfl (o_move rfl) ?_
      refine gl_v rfl (o_move rfl) ?_
      first | refine gl_v rfl (o_fldS rfl) ?_ | refine gl_v rfl (o_fld rfl) ?_
      first | refine gl_v rfl (o_load rfl rfl) ?_ | refine gl_v rfl (o_loadS rfl rfl) ?_
      first | refine gl_v rfl (o_fldS rfl) ?_ | refine gl_v rfl (o_fld rfl) ?_
      first | refine gl_v rfl (o_load rfl rfl) ?_ | refine gl_v rfl (o_loadS rfl rfl) ?_
      refine gl_c rfl (o_call rfl (Move_spec _ _ _ _ hr) (by repeat (first | exact .nil | (apply Part.cons; · (first | exact .head | exact .tail .head | exact .tail (.tail .head) | exact .tail (.tail (.tail .head)) | exact .tail (.tail (.tail (.tail .head))) | exact .tail (.tail (.tail (.tail (.tail .head)))) | exact .tail (.tail (.tail (.tail (.tail (.tail .head))))) | exact .tail (.tail (.tail (.tail (.tail (.tail (.tail .head))))))))))) ?_
      rintro _ _ ⟨_, ⟨rfl, rfl⟩, rfl⟩
      simp only [List.cons_append, List.nil_append]
      refine gl_v rfl (o_move rfl) ?_
      refine gl_v rfl (o_eql rfl rfl) ?_
      refine gl_v rfl (o_assign rfl) ?_
      refine gl_v rfl (o_assign rfl) ?_
      refine gl_nil ?_
      refine ge_then ?_
      refine g_ret ?_
      refine ge_block_ret ?_
      refine ge_then_ret ?_
      refine ret2 (.inl rfl) rfl rfl rfl [ledger p (doesR r q), places (.slice a5 (doesR r q).length c5) (doesR r q)] (⟨a5, c5, by rw [show doesR r q = movR r q.2.1 q.2.2 by simp [doesR, *]]; simp, rfl⟩) (by rw [show doesR r q = movR r q.2.1 q.2.2 by simp [doesR, *]]; exact (To.sat (by repeat (first | exact .nil | exact .done .refl | (apply To.cons; · (first | exact .head | exact .tail .head | exact .tail (.tail .head) | exact .tail (.tail (.tail .head)) | exact .tail (.tail (.tail (.tail .head))) | exact .tail (.tail (.tail (.tail (.tail .head)))) | exact .tail (.tail (.tail (.tail (.tail (.tail .head))))) | exact .tail (.tail (.tail (.tail (.tail (.tail (.tail .head)))))))) | exact .done (by repeat (first | exact .refl | apply Drop.skip))))))
    ·
      first | replace hc2 := of_decide_eq_true hc2 | replace hc2 := lt_f hc2 | replace hc2 := le_f hc2 | replace hc2 := dec_f hc2 | replace hc2 := nlt_t hc2 | replace hc2 := nle_t hc2 | replace hc2 := ndec_t hc2 | replace hc2 := ndec_f hc2 | replace hc2 := nn_t hc2 | replace hc2 := nn_f hc2 | skip
      refine g_seq ?_
      refine g_region ?_
      refine gl_v rfl (o_eql rfl rfl) ?_
      refine gl_v rfl (o_assign rfl) ?_
      refine gl_nil ?_
      refine ge_then ?_
      refine g_cond rfl (fun hc3 => ?_) (fun hc3 => ?_)
      ·
        first | replace hc3 := of_decide_eq_true hc3 | replace hc3 := lt_f hc3 | replace hc3 := le_f hc3 | replace hc3 := dec_f hc3 | replace hc3 := nlt_t hc3 | replace hc3 := nle_t hc3 | replace hc3 := ndec_t hc3 | replace hc3 := ndec_f hc3 | replace hc3 := nn_t hc3 | replace hc3 := nn_f hc3 | skip
        refine g_seq ?_
        refine g_region ?_
        refine gl_v rfl (o_move rfl) ?_
        first | refine gl_v rfl (o_fldS rfl) ?_ | refine gl_v rfl (o_fld rfl) ?_
        first | refine gl_v rfl (o_load rfl rfl) ?_ | refine gl_v rfl (o_loadS rfl rfl) ?_
        refine gl_c rfl (o_call rfl (rTo_spec _ _ _ _ _ hr hk) (by repeat (first | exact .nil | (apply Part.cons; · (first | exact .head | exact .tail .head | exact .tail (.tail .head) | exact .tail (.tail (.tail .head)) | exact .tail (.tail (.tail (.tail .head))) | exact .tail (.tail (.tail (.tail (.tail .head)))) | exact .tail (.tail (.tail (.tail (.tail (.tail .head))))) | exact .tail (.tail (.tail (.tail (.tail (.tail (.tail .head))))))))))) ?_
        rintro _ _ ⟨_, ⟨a4, c4, rfl, rfl⟩, rfl⟩
        simp only [List.cons_append, List.nil_append]
        refine gl_v rfl (o_move rfl) ?_
        refine gl_v rfl (o_extract rfl rfl) ?_
        refine gl_v rfl (o_extract rfl rfl) ?_
        refine gl_v rfl (o_assign rfl) ?_
        refine gl_v rfl (o_assign rfl) ?_
        refine gl_nil ?_
        refine ge_then ?_
        refine g_seq ?_
        refine g_region ?_
        refine gl_v rfl (o_move rfl) ?_
        refine gl_v rfl (o_move rfl) ?_
        first | refine gl_v rfl (o_fldS rfl) ?_ | refine gl_v rfl (o_fld rfl) ?_
        first | refine gl_v rfl (o_load rfl rfl) ?_ | refine gl_v rfl (o_loadS rfl rfl) ?_
        refine gl_c rfl (o_call rfl (Start_spec _ _ _ hr) (by repeat (first | exact .nil | (apply Part.cons; · (first | exact .head | exact .tail .head | exact .tail (.tail .head) | exact .tail (.tail (.tail .head)) | exact .tail (.tail (.tail (.tail .head))) | exact .tail (.tail (.tail (.tail (.tail .head)))) | exact .tail (.tail (.tail (.tail (.tail (.tail .head))))) | exact .tail (.tail (.tail (.tail (.tail (.tail (.tail .head))))))))))) ?_
        rintro _ _ ⟨_, ⟨rfl, rfl⟩, rfl⟩
        simp only [List.cons_append, List.nil_append]
        refine gl_v rfl (o_move rfl) ?_
        refine gl_v rfl (o_eql rfl rfl) ?_
        refine gl_v rfl (o_assign rfl) ?_
        refine gl_v rfl (o_assign rfl) ?_
        refine gl_nil ?_
        refine ge_then ?_
        refine g_ret ?_
        refine ge_block_ret ?_
        refine ge_then_ret ?_
        refine ret2 (.inl rfl) rfl rfl rfl [ledger p (doesR r q), places (.slice a4 (doesR r q).length c4) (doesR r q)] (⟨a4, c4, by rw [show doesR r q = fromR r q.2.1 7 by simp [doesR, *]]; simp, rfl⟩) (by rw [show doesR r q = fromR r q.2.1 7 by simp [doesR, *]]; exact (To.sat (by repeat (first | exact .nil | exact .done .refl | (apply To.cons; · (first | exact .head | exact .tail .head | exact .tail (.tail .head) | exact .tail (.tail (.tail .head)) | exact .tail (.tail (.tail (.tail .head))) | exact .tail (.tail (.tail (.tail (.tail .head)))) | exact .tail (.tail (.tail (.tail (.tail (.tail .head))))) | exact .tail (.tail (.tail (.tail (.tail (.tail (.tail .head)))))))) | exact .done (by repeat (first | exact .refl | apply Drop.skip))))))
      ·
        first | replace hc3 := of_decide_eq_true hc3 | replace hc3 := lt_f hc3 | replace hc3 := le_f hc3 | replace hc3 := dec_f hc3 | replace hc3 := nlt_t hc3 | replace hc3 := nle_t hc3 | replace hc3 := ndec_t hc3 | replace hc3 := ndec_f hc3 | replace hc3 := nn_t hc3 | replace hc3 := nn_f hc3 | skip
        refine g_seq ?_
        refine g_region ?_
        refine gl_v rfl (o_eql rfl rfl) ?_
        refine gl_v rfl (o_assign rfl) ?_
        refine gl_nil ?_
        refine ge_then ?_
        refine g_cond rfl (fun hc4 => ?_) (fun hc4 => ?_)
        ·
          first | replace hc4 := of_decide_eq_true hc4 | replace hc4 := lt_f hc4 | replace hc4 := le_f hc4 | replace hc4 := dec_f hc4 | replace hc4 := nlt_t hc4 | replace hc4 := nle_t hc4 | replace hc4 := ndec_t hc4 | replace hc4 := ndec_f hc4 | replace hc4 := nn_t hc4 | replace hc4 := nn_f hc4 | skip
          refine g_seq ?_
          refine g_region ?_
          refine gl_v rfl (o_move rfl) ?_
          first | refine gl_v rfl (o_fldS rfl) ?_ | refine gl_v rfl (o_fld rfl) ?_
          first | refine gl_v rfl (o_load rfl rfl) ?_ | refine gl_v rfl (o_loadS rfl rfl) ?_
          refine gl_c rfl (o_call rfl (rTo_spec _ _ _ _ _ hr hk) (by repeat (first | exact .nil | (apply Part.cons; · (first | exact .head | exact .tail .head | exact .tail (.tail .head) | exact .tail (.tail (.tail .head)) | exact .tail (.tail (.tail (.tail .head))) | exact .tail (.tail (.tail (.tail (.tail .head)))) | exact .tail (.tail (.tail (.tail (.tail (.tail .head))))) | exact .tail (.tail (.tail (.tail (.tail (.tail (.tail .head))))))))))) ?_
          rintro _ _ ⟨_, ⟨a4, c4, rfl, rfl⟩, rfl⟩
          simp only [List.cons_append, List.nil_append]
          refine gl_v rfl (o_move rfl) ?_
          refine gl_v rfl (o_extract rfl rfl) ?_
          refine gl_v rfl (o_extract rfl rfl) ?_
          refine gl_v rfl (o_assign rfl) ?_
          refine gl_v rfl (o_assign rfl) ?_
          refine gl_nil ?_
          refine ge_then ?_
          refine g_seq ?_
          refine g_region ?_
          refine gl_v rfl (o_move rfl) ?_
          refine gl_v rfl (o_move rfl) ?_
          first | refine gl_v rfl (o_fldS rfl) ?_ | refine gl_v rfl (o_fld rfl) ?_
          first | refine gl_v rfl (o_load rfl rfl) ?_ | refine gl_v rfl (o_loadS rfl rfl) ?_
          refine gl_c rfl (o_call rfl (Kill_spec _ _ _ hr) (by repeat (first | exact .nil | (apply Part.cons; · (first | exact .head | exact .tail .head | exact .tail (.tail .head) | exact .tail (.tail (.tail .head)) | exact .tail (.tail (.tail (.tail .head))) | exact .tail (.tail (.tail (.tail (.tail .head)))) | exact .tail (.tail (.tail (.tail (.tail (.tail .head))))) | exact .tail (.tail (.tail (.tail (.tail (.tail (.tail .head))))))))))) ?_
          rintro _ _ ⟨_, ⟨rfl, rfl⟩, rfl⟩
          simp only [List.cons_append, List.nil_append]
          refine gl_v rfl (o_move rfl) ?_
          refine gl_v rfl (o_eql rfl rfl) ?_
          refine gl_v rfl (o_assign rfl) ?_
          refine gl_v rfl (o_assign rfl) ?_
          refine gl_nil ?_
          refine ge_then ?_
          refine g_ret ?_
          refine ge_block_ret ?_
          refine ge_then_ret ?_
          refine ret2 (.inl rfl) rfl rfl rfl [ledger p (doesR r q), places (.slice a4 (doesR r q).length c4) (doesR r q)] (⟨a4, c4, by rw [show doesR r q = fromR r q.2.1 8 by simp [doesR, *]]; simp, rfl⟩) (by rw [show doesR r q = fromR r q.2.1 8 by simp [doesR, *]]; exact (To.sat (by repeat (first | exact .nil | exact .done .refl | (apply To.cons; · (first | exact .head | exact .tail .head | exact .tail (.tail .head) | exact .tail (.tail (.tail .head)) | exact .tail (.tail (.tail (.tail .head))) | exact .tail (.tail (.tail (.tail (.tail .head)))) | exact .tail (.tail (.tail (.tail (.tail (.tail .head))))) | exact .tail (.tail (.tail (.tail (.tail (.tail (.tail .head)))))))) | exact .done (by repeat (first | exact .refl | apply Drop.skip))))))
        ·
          first | replace hc4 := of_decide_eq_true hc4 | replace hc4 := lt_f hc4 | replace hc4 := le_f hc4 | replace hc4 := dec_f hc4 | replace hc4 := nlt_t hc4 | replace hc4 := nle_t hc4 | replace hc4 := ndec_t hc4 | replace hc4 := ndec_f hc4 | replace hc4 := nn_t hc4 | replace hc4 := nn_f hc4 | skip
          refine g_skip ?_
          refine ge_block ?_
          refine ge_then ?_
          refine g_seq ?_
          refine g_region ?_
          refine gl_v rfl (o_move rfl) ?_
          refine gl_v rfl (o_assign rfl) ?_
          refine gl_v rfl (o_assign rfl) ?_
          refine gl_nil ?_
          refine ge_then ?_
          refine g_ret ?_
          refine ret2 (.inl rfl) rfl rfl rfl [ledger p (doesR r q), places (.slice a (doesR r q).length c) (doesR r q)] (⟨a, c, by rw [show doesR r q = r by simp [doesR, *]], rfl⟩) (by rw [show doesR r q = r by simp [doesR, *]]; exact (To.sat (by repeat (first | exact .nil | exact .done .refl | (apply To.cons; · (first | exact .head | exact .tail .head | exact .tail (.tail .head) | exact .tail (.tail (.tail .head)) | exact .tail (.tail (.tail (.tail .head))) | exact .tail (.tail (.tail (.tail (.tail .head)))) | exact .tail (.tail (.tail (.tail (.tail (.tail .head))))) | exact .tail (.tail (.tail (.tail (.tail (.tail (.tail .head)))))))) | exact .done (by repeat (first | exact .refl | apply Drop.skip))))))

end Go.Proofs.Ytdfmflccmnniaaa.L

