/-
  The wheel's functions, further. Own work, printed in part by a program of its own.
-/
import Derived.Test.YtmohikdmdmplaaaGreatWheel
set_option linter.unusedSimpArgs false
set_option linter.unusedVariables false
set_option linter.unusedSectionVars false
namespace Go.Proofs.YtmohikdmdmplaaaGreat.L
open Go.L Go.L.Whl

theorem ids_n (a : Option Addr) (c n : Nat) (l m : List Tm) (hn : l.length = n) (hp : l.Perm m) (hs : m.Pairwise (fun a b => a.seq < b.seq)) (hq : ∀ t ∈ m, t.seq < 4611686018427387904) (hb : l.length ≤ 1000) :
    FnS Tryz.prog 74 [.slice a n c] [own (.slice a n c) 131 3 n (l.flatMap te)] (fun u Bs => ∃ a' c', u = .slice a' m.length c' ∧ Bs = [own (.slice a' m.length c') 22 1 m.length (m.map fun t => U64 t.id)]) := by subst hn; exact ids_spec a c l m hp hs hq hb
set_option maxRecDepth 8000 in
theorem Ids_spec (p : Nat) (w : Wh) (hw : WOk w) (hq : w.seq < 4611686018427387904) : FnS Tryz.prog 55 [ptr p 0] [wheel p w] (fun u Bs => ∃ a' c', u = .slice a' w.T.length c' ∧ Bs = [own (.slice a' w.T.length c') 22 1 w.T.length (w.T.map fun t => U64 t.id), wheel p w]) := by
 refine fn_body Tryz.func55 rfl rfl rfl ?_
 intro W0 R
 simp only [List.zipIdx_cons, List.zipIdx_nil, List.map_cons, List.map_nil, Nat.zero_add, Nat.reduceAdd, List.cons_append, List.nil_append]
 refine g_open (by repeat (first | exact .head | apply Sel.tail)) ?_
 rintro ss hL
 replace hL : LiesW w ss := hL
 have hlen := hL.hlen
 have hb := hL.hb hw
 simp only [List.cons_append, List.nil_append]
 have hfl := hL.flat.length_eq
 have hT := hw.len
 refine g_seq ?_
 refine g_region ?_
 refine gl_v rfl (o_assign rfl) ?_
 refine gl_nil ?_
 refine ge_then ?_
 refine g_seq ?_
 refine g_region ?_
 refine gl_n rfl (o_alloc) ?_
 rintro _ _ ⟨b3, rfl, rfl⟩
 refine gl_nil ?_
 refine ge_then ?_
 refine g_seq ?_
 refine g_imp (ex_close (φ := fun _ => True) (l := fun x : Option Addr × Nat => [cel b3 122 [.slice x.1 0 x.2], own (.slice x.1 0 x.2) 131 3 0 (((ss.flatMap (·.l)).take 0).flatMap te)]) (R := wcel p w.now w.seq ss :: wfam ss :: R) (none, 0) trivial own_nil) ?_
 rw [show exA (ι := Option Addr × Nat) (fun _ => True) (fun x => [cel b3 122 [.slice x.1 0 x.2], own (.slice x.1 0 x.2) 131 3 0 (((ss.flatMap (·.l)).take 0).flatMap te)]) = idInv ss b3 0 from rfl]
 refine g_region ?_
 refine gl_v rfl (o_move rfl) ?_
 refine gl_v rfl (o_func (xs := []) (ys := [.tmp 3]) rfl rfl) ?_
 refine gl_c rfl (o_call rfl (each_spec (g := 73) [ptr b3 0] (idInv ss b3) (fun _ => true) p w.now w.seq ss hlen hb (fun l s i x t hl hs hx ht hgo => idd1_spec ss l s i _ t b3 (by have := (List.getElem?_eq_some_iff.1 (flat_at hx ht)).1; omega) (flat_at hx ht))) (by repeat (first | exact .nil | (apply Part.cons; · (repeat (first | exact .head | apply Sel.tail)))))) ?_
 rintro _ R ⟨_, ⟨rfl, k, hk, rfl⟩, rfl⟩
 try simp only [List.cons_append, List.nil_append]
 obtain rfl : k = w.T.length := by
   rcases hk with ⟨rfl, _⟩ | ⟨_, _, _, _, _, _, _, _, _, _, _, h⟩
   · rw [offs_all hlen, hfl]
   · cases h
 refine gl_nil ?_
 refine ge_then ?_
 refine g_seq ?_
 refine g_open (φ := fun _ => True) (l := fun x : Option Addr × Nat => [cel b3 122 [.slice x.1 w.T.length x.2], own (.slice x.1 w.T.length x.2) 131 3 w.T.length (((ss.flatMap (·.l)).take w.T.length).flatMap te)]) (by repeat (first | exact .head | apply Sel.tail)) ?_
 rintro ⟨a, c⟩ -
 simp only [List.cons_append, List.nil_append]
 rw [List.take_of_length_le (by omega)]
 refine g_region ?_
 first | refine gl_v rfl (o_load rfl rfl) ?_ | refine gl_v rfl (o_loadS rfl rfl) ?_ | refine gl_v rfl (o_loadC rfl) ?_
 refine gl_c rfl (o_call rfl (ids_n a c w.T.length (ss.flatMap (·.l)) w.T hfl hL.flat hw.sq (fun t ht => by have := hw.sb t ht; omega) (by omega)) (.cons (.tail .head) .nil)) ?_
 rintro _ R ⟨_, ⟨a', c', rfl, rfl⟩, rfl⟩
 try simp only [List.cons_append, List.nil_append]
 refine gl_v rfl (o_assign rfl) ?_
 refine gl_nil ?_
 refine ge_then ?_
 refine g_ret ?_
 refine ret1 (.inl rfl) rfl rfl [own (.slice a' w.T.length c') 22 1 w.T.length (w.T.map fun t => U64 t.id), wheel p w] (⟨a', c', rfl, rfl⟩) (fun h s => Sat.swap (wheel_close ss hL (To.sat (by repeat (first | exact .nil | exact .done .refl | (apply To.cons; · (repeat (first | exact .head | apply Sel.tail))) | exact .done (by repeat (first | exact .refl | apply Drop.skip))))) h s))

set_option maxRecDepth 8000 in
theorem Add_spec (p : Nat) (w : Wh) (id d : Int) (hw : WOk w) (hn : w.now < 3000000000000000000) (hq : w.seq < 4611686018427387903) : FnS Tryz.prog 91 [ptr p 0, U64 id, I64 d] [wheel p w] (fun u Bs => u = I64 (addE w id d) ∧ Bs = [wheel p (addR w id d)]) := by
 refine fn_body Tryz.func91 rfl rfl rfl ?_
 intro W0 R
 simp only [List.zipIdx_cons, List.zipIdx_nil, List.map_cons, List.map_nil, Nat.zero_add, Nat.reduceAdd, List.cons_append, List.nil_append]
 refine g_seq ?_
 refine g_region ?_
 refine gl_v rfl (o_assign rfl) ?_
 refine gl_nil ?_
 refine ge_then ?_
 refine g_seq ?_
 refine g_seq ?_
 refine g_region ?_
 refine gl_v rfl (o_move rfl) ?_
 refine gl_v rfl (o_lss rfl rfl) ?_
 refine gl_v rfl (o_move rfl) ?_
 refine gl_g rfl rfl (fun hc1 => ?_) (fun hc1 => ?_) rfl
 ·
  have hc1' := hc1
  first | replace hc1' := of_decide_eq_true hc1' | replace hc1' := lt_f hc1' | replace hc1' := le_f hc1' | replace hc1' := dec_f hc1' | replace hc1' := nlt_t hc1' | replace hc1' := nle_t hc1' | replace hc1' := ndec_t hc1' | replace hc1' := ndec_f hc1' | replace hc1' := nn_t hc1' | replace hc1' := nn_f hc1' | skip
  refine gl_v rfl (o_move rfl) ?_
  refine gl_gT rfl rfl hc1 ?_
  refine gl_v rfl (o_gtr rfl rfl) ?_
  refine gl_v rfl (o_pickF hc1 rfl rfl) ?_
  refine gl_nil ?_
  refine ge_then ?_
  refine g_cond rfl (fun hc2 => ?_) (fun hc2 => ?_)
  ·
   first | replace hc2 := of_decide_eq_true hc2 | replace hc2 := lt_f hc2 | replace hc2 := le_f hc2 | replace hc2 := dec_f hc2 | replace hc2 := nlt_t hc2 | replace hc2 := nle_t hc2 | replace hc2 := ndec_t hc2 | replace hc2 := ndec_f hc2 | replace hc2 := nn_t hc2 | replace hc2 := nn_f hc2 | skip
   refine g_seq ?_
   refine g_region ?_
   refine gl_v rfl (o_assign rfl) ?_
   refine gl_nil ?_
   refine ge_then ?_
   refine g_ret ?_
   refine ge_then_ret ?_
   refine ret1 (.inl rfl) rfl rfl [wheel p (addR w id d)] (⟨by rw [addE_1 (w := w) (id := id) (d := d) (by omega)], rfl⟩) (by rw [addR_ne (by rw [addE_1 (w := w) (id := id) (d := d) (by omega)]; decide)]; exact (To.sat (by repeat (first | exact .nil | exact .done .refl | (apply To.cons; · (repeat (first | exact .head | apply Sel.tail))) | exact .done (by repeat (first | exact .refl | apply Drop.skip))))))
  ·
   first | replace hc2 := of_decide_eq_true hc2 | replace hc2 := lt_f hc2 | replace hc2 := le_f hc2 | replace hc2 := dec_f hc2 | replace hc2 := nlt_t hc2 | replace hc2 := nle_t hc2 | replace hc2 := ndec_t hc2 | replace hc2 := ndec_f hc2 | replace hc2 := nn_t hc2 | replace hc2 := nn_f hc2 | skip
   refine g_skip ?_
   refine ge_then ?_
   refine g_seq ?_
   refine g_seq ?_
   refine g_region ?_
   refine gl_v rfl (o_move rfl) ?_
   refine gl_v rfl (o_move rfl) ?_
   refine gl_c rfl (o_call rfl (findW p w id hw) (by repeat (first | exact .nil | (apply Part.cons; · (repeat (first | exact .head | apply Sel.tail)))))) ?_
   rintro _ R ⟨_, ⟨⟨l, s, i, t, b, rfl, hf⟩, rfl⟩, rfl⟩
   try simp only [List.cons_append, List.nil_append]
   refine gl_v rfl (o_move rfl) ?_
   refine gl_v rfl (o_extract rfl rfl) ?_
   refine gl_v rfl (o_extract rfl rfl) ?_
   refine gl_v rfl (o_extract rfl rfl) ?_
   refine gl_v rfl (o_extract rfl rfl) ?_
   refine gl_v rfl (o_extract rfl rfl) ?_
   refine gl_n rfl (o_alloc) ?_
   rintro _ _ ⟨b10, rfl, rfl⟩
   refine gl_v rfl (o_assign rfl) ?_
   refine gl_v rfl (o_assign rfl) ?_
   refine gl_v rfl (o_assign rfl) ?_
   first | refine gl_u (o_storeSA rfl rfl rfl rfl (by simp; omega) (by simp)) ?_ | refine gl_u (o_storeA rfl rfl rfl rfl rfl) ?_
   refine gl_v rfl (o_assign rfl) ?_
   refine gl_nil ?_
   refine ge_then ?_
   refine g_seq ?_
   refine g_region ?_
   refine gl_v rfl (o_move rfl) ?_
   refine gl_nil ?_
   refine ge_then ?_
   refine g_cond rfl (fun hc3 => ?_) (fun hc3 => ?_)
   ·
    first | replace hc3 := of_decide_eq_true hc3 | replace hc3 := lt_f hc3 | replace hc3 := le_f hc3 | replace hc3 := dec_f hc3 | replace hc3 := nlt_t hc3 | replace hc3 := nle_t hc3 | replace hc3 := ndec_t hc3 | replace hc3 := ndec_f hc3 | replace hc3 := nn_t hc3 | replace hc3 := nn_f hc3 | skip
    have hg : w.get id = some t := by
      rcases hf with ⟨_, h, _⟩ | ⟨h, _⟩
      · exact h
      · rw [h] at hc3; cases hc3
    refine g_seq ?_
    refine g_region ?_
    refine gl_v rfl (o_assign rfl) ?_
    refine gl_nil ?_
    refine ge_then ?_
    refine g_ret ?_
    refine ge_then_ret ?_
    refine ret1 (.inl rfl) rfl rfl [wheel p (addR w id d)] (⟨by rw [addE_3 (w := w) (id := id) (d := d) (by omega) hg], rfl⟩) (by rw [addR_ne (by rw [addE_3 (w := w) (id := id) (d := d) (by omega) hg]; decide)]; exact (To.sat (by repeat (first | exact .nil | exact .done .refl | (apply To.cons; · (repeat (first | exact .head | apply Sel.tail))) | exact .done (by repeat (first | exact .refl | apply Drop.skip))))))
   ·
    first | replace hc3 := of_decide_eq_true hc3 | replace hc3 := lt_f hc3 | replace hc3 := le_f hc3 | replace hc3 := dec_f hc3 | replace hc3 := nlt_t hc3 | replace hc3 := nle_t hc3 | replace hc3 := ndec_t hc3 | replace hc3 := ndec_f hc3 | replace hc3 := nn_t hc3 | replace hc3 := nn_f hc3 | skip
    have hg : w.get id = none := by
      rcases hf with ⟨h, _⟩ | ⟨_, h, _⟩
      · rw [h] at hc3; cases hc3
      · exact h
    refine g_skip ?_
    refine ge_then ?_
    refine g_seq ?_
    refine g_seq ?_
    refine g_region ?_
    refine gl_v rfl (o_move rfl) ?_
    refine gl_c rfl (o_call rfl (WLen_spec p w hw) (by repeat (first | exact .nil | (apply Part.cons; · (repeat (first | exact .head | apply Sel.tail)))))) ?_
    rintro _ R ⟨_, ⟨rfl, rfl⟩, rfl⟩
    try simp only [List.cons_append, List.nil_append]
    refine gl_v rfl (o_geq rfl rfl) ?_
    refine gl_nil ?_
    refine ge_then ?_
    refine g_cond rfl (fun hc4 => ?_) (fun hc4 => ?_)
    ·
     first | replace hc4 := of_decide_eq_true hc4 | replace hc4 := lt_f hc4 | replace hc4 := le_f hc4 | replace hc4 := dec_f hc4 | replace hc4 := nlt_t hc4 | replace hc4 := nle_t hc4 | replace hc4 := ndec_t hc4 | replace hc4 := ndec_f hc4 | replace hc4 := nn_t hc4 | replace hc4 := nn_f hc4 | skip
     refine g_seq ?_
     refine g_region ?_
     refine gl_v rfl (o_assign rfl) ?_
     refine gl_nil ?_
     refine ge_then ?_
     refine g_ret ?_
     refine ge_then_ret ?_
     refine ret1 (.inl rfl) rfl rfl [wheel p (addR w id d)] (⟨by rw [addE_4 (w := w) (id := id) (d := d) (by omega) hg (by omega)], rfl⟩) (by rw [addR_ne (by rw [addE_4 (w := w) (id := id) (d := d) (by omega) hg (by omega)]; decide)]; exact (To.sat (by repeat (first | exact .nil | exact .done .refl | (apply To.cons; · (repeat (first | exact .head | apply Sel.tail))) | exact .done (by repeat (first | exact .refl | apply Drop.skip))))))
    ·
     first | replace hc4 := of_decide_eq_true hc4 | replace hc4 := lt_f hc4 | replace hc4 := le_f hc4 | replace hc4 := dec_f hc4 | replace hc4 := nlt_t hc4 | replace hc4 := nle_t hc4 | replace hc4 := ndec_t hc4 | replace hc4 := ndec_f hc4 | replace hc4 := nn_t hc4 | replace hc4 := nn_f hc4 | skip
     refine g_skip ?_
     refine ge_then ?_
     refine g_seq ?_
     refine g_open (by repeat (first | exact .head | apply Sel.tail)) ?_
     rintro ss hL
     replace hL : LiesW w ss := hL
     have hlen := hL.hlen
     have hb := hL.hb hw
     simp only [List.cons_append, List.nil_append]
     refine g_region ?_
     refine gl_v rfl (o_move rfl) ?_
     refine gl_v rfl (o_nil rfl) ?_
     first | refine gl_v rfl (o_fldS rfl) ?_ | refine gl_v rfl (o_fld rfl) ?_
     refine gl_v rfl (o_load rfl (l := wcs w.now w.seq ss) (v := I64 w.seq) rfl) ?_
     refine gl_v rfl (o_addR ((w.seq + 1 : Nat) : Int) (by rw [wr_i64 (by omega)]; omega) rfl rfl) ?_
     refine gl_v rfl (o_nil rfl) ?_
     first | refine gl_v rfl (o_fldS rfl) ?_ | refine gl_v rfl (o_fld rfl) ?_
     refine gl_u (o_store rfl rfl rfl (by rw [wlen, hlen]; rfl)) ?_
     rw [show (wcs w.now w.seq ss).set (0 + 1) (I64 ((w.seq + 1 : Nat) : Int)) = wcs w.now (w.seq + 1) ss from rfl]
     refine gl_nil ?_
     refine ge_then ?_
     refine g_seq ?_
     refine g_draw [13] [] [(0, .loc), (1, .loc), (2, .loc), (3, .loc), (4, .loc), (5, .loc), (6, .loc), (7, .loc), (8, .loc), (9, .loc), (10, .loc), (11, .loc), (12, .loc), (13, .eff)] [] mixed (by kernel_rfl) ?_
     refine go_v rfl .none rfl (o_move rfl) ?_
     refine go_v rfl .none rfl (o_move rfl) ?_
     refine go_v rfl .none rfl (o_move rfl) ?_
     refine go_v rfl .none rfl (o_nil rfl) ?_
     first | refine go_v rfl .none rfl (o_fldS rfl) ?_ | refine go_v rfl .none rfl (o_fld rfl) ?_
     refine go_v rfl .none rfl (o_load rfl (l := wcs w.now (w.seq + 1) ss) (v := I64 w.now) rfl) ?_
     refine go_v rfl .none rfl (o_move rfl) ?_
     refine go_v rfl .none rfl (o_addR ((w.now + d.toNat : Nat) : Int) (by rw [wr_i64 (by omega)]; omega) rfl rfl) ?_
     refine go_v rfl .none rfl (o_move rfl) ?_
     refine go_v rfl .none rfl (o_nil rfl) ?_
     first | refine go_v rfl .none rfl (o_fldS rfl) ?_ | refine go_v rfl .none rfl (o_fld rfl) ?_
     refine go_v rfl .none rfl (o_load rfl (l := wcs w.now (w.seq + 1) ss) (v := I64 ((w.seq + 1 : Nat) : Int)) rfl) ?_
     refine go_v rfl .none rfl (o_build rfl rfl) ?_
     refine go_c rfl .none rfl (o_call rfl (lay_spec p w.now (w.seq + 1) ss ⟨id, w.now + d.toNat, w.seq + 1⟩ (by omega) (show w.now + d.toNat < 4000000000000000000 by omega) hlen hb) (by repeat (first | exact .nil | (apply Part.cons; · (repeat (first | exact .head | apply Sel.tail)))))) ?_
     rintro _ R ⟨_, ⟨rfl, ss', hss, rfl⟩, rfl⟩
     try simp only [List.cons_append, List.nil_append]
     refine ⟨(fun hG => absurd hG (by decide)), ?_⟩
     refine go_nil ?_
     refine ge_then ?_
     refine g_seq ?_
     refine g_region ?_
     refine gl_v rfl (o_assign rfl) ?_
     refine gl_nil ?_
     refine ge_then ?_
     refine g_ret ?_
     refine ret1 (.inl rfl) rfl rfl [wheel p ⟨w.now, w.seq + 1, w.T ++ [⟨id, w.now + d.toNat, w.seq + 1⟩]⟩] (⟨by rw [addE_z (by omega) hg (by omega)], by unfold addR; rw [if_pos (addE_z (by omega) hg (by omega))]⟩) (wheel_close ss' (by rw [hss]; exact Lies.lay hL _ (posn_lt _ _)) (To.sat (by repeat (first | exact .nil | exact .done .refl | (apply To.cons; · (repeat (first | exact .head | apply Sel.tail))) | exact .done (by repeat (first | exact .refl | apply Drop.skip))))))
 ·
  have hc1' := hc1
  first | replace hc1' := of_decide_eq_true hc1' | replace hc1' := lt_f hc1' | replace hc1' := le_f hc1' | replace hc1' := dec_f hc1' | replace hc1' := nlt_t hc1' | replace hc1' := nle_t hc1' | replace hc1' := ndec_t hc1' | replace hc1' := ndec_f hc1' | replace hc1' := nn_t hc1' | replace hc1' := nn_f hc1' | skip
  simp only [putO]
  refine gl_gF rfl rfl hc1 rfl ?_
  refine gl_v rfl (o_pickT hc1 rfl rfl) ?_
  refine gl_nil ?_
  refine ge_then ?_
  refine g_cond_true rfl ?_
  refine g_seq ?_
  refine g_region ?_
  refine gl_v rfl (o_assign rfl) ?_
  refine gl_nil ?_
  refine ge_then ?_
  refine g_ret ?_
  refine ge_then_ret ?_
  refine ret1 (.inl rfl) rfl rfl [wheel p (addR w id d)] (⟨by rw [addE_1 (w := w) (id := id) (d := d) (by omega)], rfl⟩) (by rw [addR_ne (by rw [addE_1 (w := w) (id := id) (d := d) (by omega)]; decide)]; exact (To.sat (by repeat (first | exact .nil | exact .done .refl | (apply To.cons; · (repeat (first | exact .head | apply Sel.tail))) | exact .done (by repeat (first | exact .refl | apply Drop.skip))))))

set_option maxRecDepth 8000 in
theorem Cut_spec (p : Nat) (w : Wh) (id : Int) (hw : WOk w) : FnS Tryz.prog 92 [ptr p 0, U64 id] [wheel p w] (fun u Bs => u = .bool (w.get id).isSome ∧ Bs = [wheel p (cutR w id)]) := by
 refine fn_body Tryz.func92 rfl rfl rfl ?_
 intro W0 R
 simp only [List.zipIdx_cons, List.zipIdx_nil, List.map_cons, List.map_nil, Nat.zero_add, Nat.reduceAdd, List.cons_append, List.nil_append]
 refine g_open (by repeat (first | exact .head | apply Sel.tail)) ?_
 rintro ss hL
 replace hL : LiesW w ss := hL
 have hlen := hL.hlen
 have hb := hL.hb hw
 simp only [List.cons_append, List.nil_append]
 refine g_seq ?_
 refine g_region ?_
 refine gl_v rfl (o_assign rfl) ?_
 refine gl_nil ?_
 refine ge_then ?_
 refine g_seq ?_
 refine g_region ?_
 refine gl_v rfl (o_move rfl) ?_
 refine gl_v rfl (o_move rfl) ?_
 refine gl_c rfl (o_call rfl (find2 p w.now w.seq ss id hlen hb) (by repeat (first | exact .nil | (apply Part.cons; · (repeat (first | exact .head | apply Sel.tail)))))) ?_
 rintro _ R ⟨_, ⟨⟨l, s, i, t, b, rfl, hf2⟩, rfl⟩, rfl⟩
 try simp only [List.cons_append, List.nil_append]
 have hf := LiesW.found hL hw hf2
 refine gl_v rfl (o_move rfl) ?_
 refine gl_v rfl (o_extract rfl rfl) ?_
 refine gl_v rfl (o_extract rfl rfl) ?_
 refine gl_v rfl (o_extract rfl rfl) ?_
 refine gl_v rfl (o_extract rfl rfl) ?_
 refine gl_v rfl (o_extract rfl rfl) ?_
 refine gl_n rfl (o_alloc) ?_
 rintro _ _ ⟨b8, rfl, rfl⟩
 refine gl_v rfl (o_assign rfl) ?_
 refine gl_v rfl (o_assign rfl) ?_
 refine gl_v rfl (o_assign rfl) ?_
 first | refine gl_u (o_storeSA rfl rfl rfl rfl (by simp; omega) (by simp)) ?_ | refine gl_u (o_storeA rfl rfl rfl rfl rfl) ?_
 refine gl_v rfl (o_assign rfl) ?_
 refine gl_nil ?_
 refine ge_then ?_
 refine g_seq ?_
 refine g_seq ?_
 refine g_region ?_
 refine gl_v rfl (o_move rfl) ?_
 refine gl_nil ?_
 refine ge_then ?_
 refine g_cond rfl (fun hc1 => ?_) (fun hc1 => ?_)
 ·
  first | replace hc1 := of_decide_eq_true hc1 | replace hc1 := lt_f hc1 | replace hc1 := le_f hc1 | replace hc1 := dec_f hc1 | replace hc1 := nlt_t hc1 | replace hc1 := nle_t hc1 | replace hc1 := ndec_t hc1 | replace hc1 := ndec_f hc1 | replace hc1 := nn_t hc1 | replace hc1 := nn_f hc1 | skip
  have hg : w.get id = some t := by
    rcases hf with ⟨_, h, _⟩ | ⟨h, _⟩
    · exact h
    · rw [h] at hc1; cases hc1
  have hid := (get_mem hg).2
  obtain ⟨x, hx, ht, hl4, hs8⟩ : ∃ x, ss[8 * l + s]? = some x ∧ x.l[i]? = some t ∧ l < 4 ∧ s < 8 := by
    rcases hf2 with ⟨_, h1, h2, ⟨x, h3, h4⟩, _⟩ | ⟨h, _⟩
    · exact ⟨x, h3, h4, h1, h2⟩
    · rw [h] at hc1; cases hc1
  have hi : i < x.l.length := (List.getElem?_eq_some_iff.1 ht).1
  refine g_fo (by repeat (first | exact .head | apply Sel.tail)) (map_at' hx) ?_
  refine g_draw [14, 19] [14] [(0, .stab), (1, .stab), (2, .stab), (3, .loc), (4, .loc), (5, .loc), (6, .loc), (7, .loc), (8, .loc), (9, .loc), (10, .loc), (11, .loc), (12, .loc), (13, .loc), (15, .stab), (16, .stab), (17, .stab), (14, .eff), (18, .loc), (19, .eff)] [wcel p w.now w.seq ss] mixed (by kernel_rfl) ?_
  refine go_vs rfl .none rfl (o_move rfl) (To.sat (by repeat (first | exact .nil | exact .done .refl | (apply To.cons; · (repeat (first | exact .head | apply Sel.tail))) | exact .done (by repeat (first | exact .refl | apply Drop.skip))))) ?_
  refine go_vs rfl .none rfl (o_move rfl) (To.sat (by repeat (first | exact .nil | exact .done .refl | (apply To.cons; · (repeat (first | exact .head | apply Sel.tail))) | exact .done (by repeat (first | exact .refl | apply Drop.skip))))) ?_
  refine go_vs rfl .none rfl (o_move rfl) (To.sat (by repeat (first | exact .nil | exact .done .refl | (apply To.cons; · (repeat (first | exact .head | apply Sel.tail))) | exact .done (by repeat (first | exact .refl | apply Drop.skip))))) ?_
  refine go_v rfl .none rfl (o_move rfl) ?_
  refine go_v rfl .none rfl (o_move rfl) ?_
  refine go_v rfl .none rfl (o_move rfl) ?_
  refine go_v rfl .none rfl (o_nil rfl) ?_
  first | refine go_v rfl .none rfl (o_fldS rfl) ?_ | refine go_v rfl .none rfl (o_fld rfl) ?_
  refine go_v rfl .none rfl (o_idxA rfl rfl hl4) ?_
  refine go_v rfl .none rfl (o_idxA rfl rfl hs8) ?_
  refine go_v rfl .none rfl (o_load rfl (wget hx)) ?_
  refine go_v rfl .none rfl (o_move rfl) ?_
  refine go_v rfl .none rfl (o_move rfl) ?_
  refine go_v rfl .none rfl (o_addR ((i + 1 : Nat) : Int) (by have := hb x (List.mem_of_getElem? hx); rw [wr_i64 (by omega)]; omega) rfl rfl) ?_
  refine go_vs rfl .none rfl (o_nil rfl) (To.sat (by repeat (first | exact .nil | exact .done .refl | (apply To.cons; · (repeat (first | exact .head | apply Sel.tail))) | exact .done (by repeat (first | exact .refl | apply Drop.skip))))) ?_
  first | refine go_vs rfl .none rfl (o_fldS rfl) (To.sat (by repeat (first | exact .nil | exact .done .refl | (apply To.cons; · (repeat (first | exact .head | apply Sel.tail))) | exact .done (by repeat (first | exact .refl | apply Drop.skip))))) ?_ | refine go_vs rfl .none rfl (o_fld rfl) (To.sat (by repeat (first | exact .nil | exact .done .refl | (apply To.cons; · (repeat (first | exact .head | apply Sel.tail))) | exact .done (by repeat (first | exact .refl | apply Drop.skip))))) ?_
  refine go_vs rfl .none rfl (o_idxA rfl rfl hl4) (To.sat (by repeat (first | exact .nil | exact .done .refl | (apply To.cons; · (repeat (first | exact .head | apply Sel.tail))) | exact .done (by repeat (first | exact .refl | apply Drop.skip))))) ?_
  refine go_c rfl .none rfl (o_call rfl (del_spec x.a x.c i x.l hi (hb x (List.mem_of_getElem? hx))) (by repeat (first | exact .nil | (apply Part.cons; · (repeat (first | exact .head | apply Sel.tail)))))) ?_
  rintro _ R ⟨_, ⟨rfl, rfl⟩, rfl⟩
  try simp only [List.cons_append, List.nil_append]
  refine ⟨(fun _ => (To.sat (by repeat (first | exact .nil | exact .done .refl | (apply To.cons; · (repeat (first | exact .head | apply Sel.tail))) | exact .done (by repeat (first | exact .refl | apply Drop.skip)))))), ?_⟩
  refine go_v rfl .none rfl (o_idxA rfl rfl hs8) ?_
  refine go_u rfl .none (o_store rfl rfl rfl (by rw [wlen, hlen]; simp [Nat.blt_eq]; omega)) (fun hG => absurd hG (by decide)) ?_
  rw [wset1 (m := x.l.eraseIdx i) (by rw [List.length_eraseIdx, if_pos hi])]
  refine go_nil ?_
  refine ge_imp (fs (A := so ⟨x.a, x.c, x.l.eraseIdx i⟩) (i := 8 * l + s) (l := ss.map so) (by repeat (first | exact .head | apply Sel.tail)) (by repeat (first | exact .head | apply Sel.tail)) (by simp; omega)) ?_
  refine ge_then ?_
  refine g_seq ?_
  refine g_region ?_
  refine gl_v rfl (o_move rfl) ?_
  refine gl_v rfl (o_assign rfl) ?_
  refine gl_nil ?_
  refine ge_then ?_
  refine g_ret ?_
  refine ret1 (.inl rfl) rfl rfl [wheel p (cutR w id)] (⟨by rw [hg, hc1]; rfl, rfl⟩) (wheel_close (w := cutR w id) (ss.set (8 * l + s) ⟨x.a, x.c, x.l.eraseIdx i⟩) (by rw [List.map_set]; have := Lies.cut hL hw.nd (j := 8 * l + s) (i := i) (l := x.l) (t := t) (by rw [List.getElem?_map, hx]; rfl) ht; rw [hid] at this; exact this) (by rw [wfam, List.map_set]; exact (To.sat (by repeat (first | exact .nil | exact .done .refl | (apply To.cons; · (repeat (first | exact .head | apply Sel.tail))) | exact .done (by repeat (first | exact .refl | apply Drop.skip)))))))
 ·
  first | replace hc1 := of_decide_eq_true hc1 | replace hc1 := lt_f hc1 | replace hc1 := le_f hc1 | replace hc1 := dec_f hc1 | replace hc1 := nlt_t hc1 | replace hc1 := nle_t hc1 | replace hc1 := ndec_t hc1 | replace hc1 := ndec_f hc1 | replace hc1 := nn_t hc1 | replace hc1 := nn_f hc1 | skip
  have hg : w.get id = none := by
    rcases hf with ⟨h, _⟩ | ⟨_, h, _⟩
    · rw [h] at hc1; cases hc1
    · exact h
  refine g_skip ?_
  refine ge_then ?_
  refine g_seq ?_
  refine g_region ?_
  refine gl_v rfl (o_move rfl) ?_
  refine gl_v rfl (o_assign rfl) ?_
  refine gl_nil ?_
  refine ge_then ?_
  refine g_ret ?_
  refine ret1 (.inl rfl) rfl rfl [wheel p (cutR w id)] (⟨by rw [hg, hc1]; rfl, rfl⟩) (by rw [cutR_none hg]; exact wheel_close ss hL (To.sat (by repeat (first | exact .nil | exact .done .refl | (apply To.cons; · (repeat (first | exact .head | apply Sel.tail))) | exact .done (by repeat (first | exact .refl | apply Drop.skip))))))

set_option maxRecDepth 8000 in
theorem Tick_spec (p : Nat) (w : Wh) (hw : WOk w) (hn : w.now < 3000000000000000000) (hq : w.seq < 4611686018427387904) : FnS Tryz.prog 87 [ptr p 0] [wheel p w] (fun u Bs => ∃ a' c', u = .slice a' (dueL w).length c' ∧ Bs = [own (.slice a' (dueL w).length c') 22 1 (dueL w).length ((dueL w).map fun t => U64 t.id), wheel p (tickR w)]) := by
 refine fn_body Tryz.func87 rfl rfl rfl ?_
 intro W0 R
 simp only [List.zipIdx_cons, List.zipIdx_nil, List.map_cons, List.map_nil, Nat.zero_add, Nat.reduceAdd, List.cons_append, List.nil_append]
 refine g_open (by repeat (first | exact .head | apply Sel.tail)) ?_
 rintro ss hL
 replace hL : LiesW w ss := hL
 have hlen := hL.hlen
 have hb := hL.hb hw
 simp only [List.cons_append, List.nil_append]
 refine g_seq ?_
 refine g_region ?_
 refine gl_v rfl (o_assign rfl) ?_
 refine gl_nil ?_
 refine ge_then ?_
 refine g_seq ?_
 refine g_region ?_
 refine gl_v rfl (o_move rfl) ?_
 refine gl_v rfl (o_nil rfl) ?_
 first | refine gl_v rfl (o_fldS rfl) ?_ | refine gl_v rfl (o_fld rfl) ?_
 refine gl_v rfl (o_load rfl (l := wcs w.now w.seq ss) (v := I64 w.now) rfl) ?_
 refine gl_v rfl (o_addR ((w.now + 1 : Nat) : Int) (by rw [wr_i64 (by omega)]; omega) rfl rfl) ?_
 refine gl_v rfl (o_nil rfl) ?_
 first | refine gl_v rfl (o_fldS rfl) ?_ | refine gl_v rfl (o_fld rfl) ?_
 refine gl_u (o_store rfl rfl rfl (by rw [wlen, hlen]; rfl)) ?_
 rw [show (wcs w.now w.seq ss).set 0 (I64 ((w.now + 1 : Nat) : Int)) = wcs (w.now + 1) w.seq ss from rfl]
 refine gl_nil ?_
 refine ge_then ?_
 refine g_seq ?_
 refine g_seq ?_
 refine g_region ?_
 refine gl_v rfl (o_assign rfl) ?_
 refine gl_nil ?_
 refine ge_then ?_
 refine g_block ?_
 refine g_loop (ι := Nat × List Sl) (fun x => x.1 ≤ 3 ∧ Lies (FL (w.now + 1) x.1) w.T (x.2.map (·.l))) (fun x => [(3, I64 x.1), (0, ptr p 0)]) (fun x => wcel p (w.now + 1) w.seq x.2 :: wfam x.2 :: R) (fun x => x.1) (3, ss) (⟨Nat.le_refl _, hL⟩) (Keep.cons rfl (Keep.cons rfl (Keep.nil))) (To.sat (by repeat (first | exact .nil | exact .done .refl | (apply To.cons; · (repeat (first | exact .head | apply Sel.tail))) | exact .done (by repeat (first | exact .refl | apply Drop.skip))))) ?_
 rintro ⟨l, ss1⟩ ⟨hl3, hL1⟩
 replace hl3 : l ≤ 3 := hl3
 replace hL1 : Lies (FL (w.now + 1) l) w.T (ss1.map (·.l)) := hL1
 have hlen1 : ss1.length = 32 := by simpa using hL1.1
 dsimp only
 refine g_seq ?_
 refine g_seq ?_
 refine g_region ?_
 refine gl_v rfl (o_move rfl) ?_
 refine gl_v rfl (o_gtr rfl rfl) ?_
 refine gl_nil ?_
 refine ge_then ?_
 refine g_cond rfl (fun hc1 => ?_) (fun hc1 => ?_)
 ·
  first | replace hc1 := of_decide_eq_true hc1 | replace hc1 := lt_f hc1 | replace hc1 := le_f hc1 | replace hc1 := dec_f hc1 | replace hc1 := nlt_t hc1 | replace hc1 := nle_t hc1 | replace hc1 := ndec_t hc1 | replace hc1 := ndec_f hc1 | replace hc1 := nn_t hc1 | replace hc1 := nn_f hc1 | skip
  refine g_skip ?_
  refine ge_then ?_
  refine g_seq ?_
  refine g_block ?_
  refine g_seq ?_
  refine g_draw [] [] [(0, .loc), (1, .loc), (2, .loc), (3, .loc), (4, .loc), (5, .loc), (6, .loc), (7, .loc), (8, .loc)] [] mixed (by kernel_rfl) ?_
  refine go_v rfl .none rfl (o_move rfl) ?_
  refine go_v rfl .none rfl (o_nil rfl) ?_
  first | refine go_v rfl .none rfl (o_fldS rfl) ?_ | refine go_v rfl .none rfl (o_fld rfl) ?_
  refine go_v rfl .none rfl (o_load rfl (l := wcs (w.now + 1) w.seq ss1) (v := I64 ((w.now + 1 : Nat) : Int)) rfl) ?_
  refine go_v rfl .none rfl (o_move rfl) ?_
  refine go_v rfl .none rfl (o_mulR ((3 * l : Nat) : Int) (by rw [wr_i64 (by omega)]; omega) rfl rfl) ?_
  refine go_v rfl .none rfl (o_shl ((2 ^ (3 * l) : Nat) : Int) (shl_r hl3) rfl rfl (by omega) (by show ((3 * l : Nat) : Int) ≤ 64; omega)) ?_
  refine go_v rfl .none rfl (o_remR (((w.now + 1) % 2 ^ (3 * l) : Nat) : Int) (tmodn _ _) rfl rfl (by have := Nat.two_pow_pos (3 * l); omega)) ?_
  refine go_v rfl .none rfl (o_eql rfl rfl) ?_
  refine go_nil ?_
  refine ge_then ?_
  refine g_cond rfl (fun hc2 => ?_) (fun hc2 => ?_)
  ·
   first | replace hc2 := of_decide_eq_true hc2 | replace hc2 := lt_f hc2 | replace hc2 := le_f hc2 | replace hc2 := dec_f hc2 | replace hc2 := nlt_t hc2 | replace hc2 := nle_t hc2 | replace hc2 := ndec_t hc2 | replace hc2 := ndec_f hc2 | replace hc2 := nn_t hc2 | replace hc2 := nn_f hc2 | skip
   have hz : (w.now + 1) % 2 ^ (3 * l) = 0 := by omega
   obtain ⟨s, hs⟩ : ∃ s, s = sh l (w.now + 1) % 8 := ⟨_, rfl⟩
   have hs8 : s < 8 := by omega
   obtain ⟨x, hx⟩ : ∃ x, ss1[8 * l + s]? = some x := ⟨_, List.getElem?_eq_getElem (by omega)⟩
   have hdown := (Lies.at' hL1 (j := 8 * l + s) (l := x.l) (by rw [List.getElem?_map, hx]; rfl)).2
   have hxb : x.l.length ≤ 64 := by
     have h3 := hdown.length_eq; have h4 := List.length_filter_le (fun t => decide (FL (w.now + 1) l t = 8 * l + s)) w.T; have := hw.len; omega
   have hM0 : Moved (FL (w.now + 1) l) (posn (w.now + 1)) w.T (8 * l + s) x.l 0 ((ss1.set (8 * l + s) ⟨none, 0, []⟩).map (·.l)) := by
     have := Moved.start (g := posn (w.now + 1)) hL1 (j0 := 8 * l + s) (by omega)
     rw [List.getD_eq_getElem?_getD, List.getElem?_map, hx] at this
     rw [List.map_set]; exact this
   refine g_seq ?_
   refine g_region ?_
   refine gl_v rfl (o_move rfl) ?_
   refine gl_v rfl (o_nil rfl) ?_
   first | refine gl_v rfl (o_fldS rfl) ?_ | refine gl_v rfl (o_fld rfl) ?_
   refine gl_v rfl (o_load rfl (l := wcs (w.now + 1) w.seq ss1) (v := I64 ((w.now + 1 : Nat) : Int)) rfl) ?_
   refine gl_v rfl (o_move rfl) ?_
   refine gl_v rfl (o_mulR ((3 * l : Nat) : Int) (by rw [wr_i64 (by omega)]; omega) rfl rfl) ?_
   refine gl_v rfl (o_shr ((sh l (w.now + 1) : Nat) : Int) (shI _ _) rfl rfl (by omega) (by show ((3 * l : Nat) : Int) ≤ 64; omega)) ?_
   refine gl_v rfl (o_remR ((sh l (w.now + 1) % 8 : Nat) : Int) (tmodn _ 8) rfl rfl (by decide)) ?_
   rw [← hs]
   refine gl_v rfl (o_assign rfl) ?_
   refine gl_nil ?_
   refine ge_then ?_
   refine g_seq ?_
   refine g_region ?_
   refine gl_v rfl (o_move rfl) ?_
   refine gl_v rfl (o_move rfl) ?_
   refine gl_v rfl (o_move rfl) ?_
   refine gl_v rfl (o_nil rfl) ?_
   first | refine gl_v rfl (o_fldS rfl) ?_ | refine gl_v rfl (o_fld rfl) ?_
   refine gl_v rfl (o_idxA rfl rfl (by omega)) ?_
   refine gl_v rfl (o_idxA rfl rfl hs8) ?_
   refine gl_v rfl (o_load rfl (wget hx)) ?_
   refine gl_v rfl (o_assign rfl) ?_
   refine gl_nil ?_
   refine ge_then ?_
   refine g_seq ?_
   refine g_fo (by repeat (first | exact .head | apply Sel.tail)) (map_at' hx) ?_
   refine g_region ?_
   refine gl_v rfl (o_move rfl) ?_
   refine gl_v rfl (o_move rfl) ?_
   refine gl_v rfl (o_move rfl) ?_
   refine gl_v rfl (o_nil rfl) ?_
   first | refine gl_v rfl (o_fldS rfl) ?_ | refine gl_v rfl (o_fld rfl) ?_
   refine gl_v rfl (o_idxA rfl rfl (by omega)) ?_
   refine gl_v rfl (o_idxA rfl rfl hs8) ?_
   refine gl_u (o_store rfl rfl rfl (by rw [wlen, hlen1]; simp [Nat.blt_eq]; omega)) ?_
   rw [wset1 (m := []) (n := 0) rfl]
   refine gl_nil ?_
   refine ge_imp (own_nil0 (e := 131) (sz := 3)) ?_
   refine ge_imp (fs (A := so ⟨none, 0, []⟩) (i := 8 * l + s) (l := ss1.map so) .head (by repeat (first | exact .head | apply Sel.tail)) (by simp; omega)) ?_
   refine ge_then ?_
   refine g_seq ?_
   refine g_region ?_
   refine gl_v rfl (o_move rfl) ?_
   refine gl_v rfl (o_lenL rfl) ?_
   refine gl_v rfl (o_move rfl) ?_
   refine gl_nil ?_
   refine ge_then ?_
   refine g_block ?_
   refine g_loop (ι := Nat × List Sl) (fun y => y.1 ≤ x.l.length ∧ Moved (FL (w.now + 1) l) (posn (w.now + 1)) w.T (8 * l + s) x.l y.1 (y.2.map (·.l))) (fun y => [(55, I64 y.1), (54, I64 x.l.length), (53, sv x), (3, I64 l), (0, ptr p 0)]) (fun y => wcel p (w.now + 1) w.seq y.2 :: wfam y.2 :: so x :: R) (fun y => x.l.length - y.1) (0, ss1.set (8 * l + s) ⟨none, 0, []⟩) (⟨Nat.zero_le _, hM0⟩) (Keep.cons rfl (Keep.cons rfl (Keep.cons rfl (Keep.cons rfl (Keep.cons rfl (Keep.nil)))))) (by rw [wfam, List.map_set]; exact (To.sat (by repeat (first | exact .nil | exact .done .refl | (apply To.cons; · (repeat (first | exact .head | apply Sel.tail))) | exact .done (by repeat (first | exact .refl | apply Drop.skip)))))) ?_
   rintro ⟨k, ss2⟩ ⟨hk, hM⟩
   replace hk : k ≤ x.l.length := hk
   replace hM : Moved (FL (w.now + 1) l) (posn (w.now + 1)) w.T (8 * l + s) x.l k (ss2.map (·.l)) := hM
   have hlen2 : ss2.length = 32 := by simpa using hM.1
   dsimp only
   refine g_seq ?_
   refine g_region ?_
   refine gl_v rfl (o_lss rfl rfl) ?_
   refine gl_nil ?_
   refine ge_then ?_
   refine g_seq ?_
   refine g_cond rfl (fun hc3 => ?_) (fun hc3 => ?_)
   ·
    first | replace hc3 := of_decide_eq_true hc3 | replace hc3 := lt_f hc3 | replace hc3 := le_f hc3 | replace hc3 := dec_f hc3 | replace hc3 := nlt_t hc3 | replace hc3 := nle_t hc3 | replace hc3 := ndec_t hc3 | replace hc3 := ndec_f hc3 | replace hc3 := nn_t hc3 | replace hc3 := nn_f hc3 | skip
    obtain ⟨t, ht⟩ : ∃ t, x.l[k]? = some t := ⟨_, List.getElem?_eq_getElem (by omega)⟩
    have htT : t ∈ w.T := (List.mem_filter.1 (hdown.subset (List.mem_of_getElem? ht))).1
    refine g_skip ?_
    refine ge_then ?_
    refine g_seq ?_
    refine g_block ?_
    refine g_seq ?_
    refine g_region ?_
    refine gl_v rfl (o_idxS rfl rfl (show k < x.l.length by omega)) ?_
    refine gl_v rfl (o_loadSA rfl (tall ht) rfl) ?_
    refine gl_n rfl (o_alloc) ?_
    rintro _ _ ⟨b7, rfl, rfl⟩
    first | refine gl_u (o_storeSA rfl rfl rfl rfl (by simp; omega) (by simp)) ?_ | refine gl_u (o_storeA rfl rfl rfl rfl rfl) ?_
    refine gl_nil ?_
    refine ge_then ?_
    refine g_region ?_
    refine gl_v rfl (o_move rfl) ?_
    refine gl_v rfl (o_loadA rfl (vs := te t) rfl rfl) ?_
    refine gl_c rfl (o_call rfl (lay_spec p (w.now + 1) w.seq ss2 t (by omega) (by have := (hw.due t htT).2; omega) hlen2 (fun y hy => by have h1 := hM.short (List.mem_map_of_mem (f := (·.l)) hy); have h2 := hw.len; have h3 := hdown.length_eq; have h4 := List.length_filter_le (fun t => decide (FL (w.now + 1) l t = 8 * l + s)) w.T; omega)) (by repeat (first | exact .nil | (apply Part.cons; · (repeat (first | exact .head | apply Sel.tail)))))) ?_
    rintro _ R ⟨_, ⟨rfl, ss3, hss, rfl⟩, rfl⟩
    try simp only [List.cons_append, List.nil_append]
    refine gl_nil ?_
    refine ge_block ?_
    refine ge_then ?_
    refine g_region ?_
    refine gl_v rfl (o_addR ((k + 1 : Nat) : Int) (by rw [wr_i64 (by omega)]; omega) rfl rfl) ?_
    refine gl_v rfl (o_move rfl) ?_
    refine gl_nil ?_
    refine ge_round (k + 1, ss3) ⟨show k + 1 ≤ x.l.length by omega, by
      show Moved (FL (w.now + 1) l) (posn (w.now + 1)) w.T (8 * l + s) x.l (k + 1) (ss3.map (·.l))
      rw [hss]; exact hM.step ht (posn_lt _ _)⟩ (show x.l.length - (k + 1) < x.l.length - k by omega) (Keep.cons rfl (Keep.cons rfl (Keep.cons rfl (Keep.cons rfl (Keep.cons rfl (Keep.nil)))))) (To.sat (by repeat (first | exact .nil | exact .done .refl | (apply To.cons; · (repeat (first | exact .head | apply Sel.tail))) | exact .done (by repeat (first | exact .refl | apply Drop.skip)))))
   ·
    first | replace hc3 := of_decide_eq_true hc3 | replace hc3 := lt_f hc3 | replace hc3 := le_f hc3 | replace hc3 := dec_f hc3 | replace hc3 := nlt_t hc3 | replace hc3 := nle_t hc3 | replace hc3 := ndec_t hc3 | replace hc3 := ndec_f hc3 | replace hc3 := nn_t hc3 | replace hc3 := nn_f hc3 | skip
    refine g_exit ?_
    refine ge_then_exit ?_
    refine ge_then_exit ?_
    refine ge_block_exit ?_
    refine ge_block ?_
    refine ge_then ?_
    refine g_region ?_
    refine gl_v rfl (o_move rfl) ?_
    refine gl_v rfl (o_subR ((l - 1 : Nat) : Int) (by rw [wr_i64 (by omega)]; omega) rfl rfl) ?_
    refine gl_v rfl (o_assign rfl) ?_
    refine gl_nil ?_
    obtain rfl : k = x.l.length := by omega
    refine ge_round (l - 1, ss2) ⟨show l - 1 ≤ 3 by omega, by
      show Lies (FL (w.now + 1) (l - 1)) w.T (ss2.map (·.l))
      rw [FL_pass (by omega) hl3]
      exact (hM.done hdown).congr (fun t _ => by unfold pass; rw [if_pos hz, hs]; rfl)⟩ (show l - 1 < l by omega) (Keep.cons rfl (Keep.cons rfl (Keep.nil))) (To.sat (by repeat (first | exact .nil | exact .done .refl | (apply To.cons; · (repeat (first | exact .head | apply Sel.tail))) | exact .done (by repeat (first | exact .refl | apply Drop.skip)))))
  ·
   first | replace hc2 := of_decide_eq_true hc2 | replace hc2 := lt_f hc2 | replace hc2 := le_f hc2 | replace hc2 := dec_f hc2 | replace hc2 := nlt_t hc2 | replace hc2 := nle_t hc2 | replace hc2 := ndec_t hc2 | replace hc2 := ndec_f hc2 | replace hc2 := nn_t hc2 | replace hc2 := nn_f hc2 | skip
   have hz : ¬ (w.now + 1) % 2 ^ (3 * l) = 0 := by omega
   refine g_skip ?_
   refine ge_block ?_
   refine ge_then ?_
   refine g_region ?_
   refine gl_v rfl (o_move rfl) ?_
   refine gl_v rfl (o_subR ((l - 1 : Nat) : Int) (by rw [wr_i64 (by omega)]; omega) rfl rfl) ?_
   refine gl_v rfl (o_assign rfl) ?_
   refine gl_nil ?_
   refine ge_round (l - 1, ss1) ⟨show l - 1 ≤ 3 by omega, by
     show Lies (FL (w.now + 1) (l - 1)) w.T (ss1.map (·.l))
     rw [FL_pass (by omega) hl3]
     exact hL1.congr (fun t _ => by unfold pass; rw [if_neg hz])⟩ (show l - 1 < l by omega) (Keep.cons rfl (Keep.cons rfl (Keep.nil))) (To.sat (by repeat (first | exact .nil | exact .done .refl | (apply To.cons; · (repeat (first | exact .head | apply Sel.tail))) | exact .done (by repeat (first | exact .refl | apply Drop.skip)))))
 ·
  first | replace hc1 := of_decide_eq_true hc1 | replace hc1 := lt_f hc1 | replace hc1 := le_f hc1 | replace hc1 := dec_f hc1 | replace hc1 := nlt_t hc1 | replace hc1 := nle_t hc1 | replace hc1 := ndec_t hc1 | replace hc1 := ndec_f hc1 | replace hc1 := nn_t hc1 | replace hc1 := nn_f hc1 | skip
  refine g_exit ?_
  refine ge_then_exit ?_
  refine ge_then_exit ?_
  refine ge_block_exit ?_
  refine ge_then ?_
  refine g_seq ?_
  obtain rfl : l = 0 := by omega
  obtain ⟨s, hs⟩ : ∃ s, s = (w.now + 1) % 8 := ⟨_, rfl⟩
  have hs8 : s < 8 := by omega
  obtain ⟨x, hx⟩ : ∃ x, ss1[8 * 0 + s]? = some x := ⟨_, List.getElem?_eq_getElem (by omega)⟩
  have hLn : Lies (fun t => posn (w.now + 1) t.due) w.T (ss1.map (·.l)) := hL1.congr fun t ht => by
    have := hw.due t ht
    exact FL_end (by omega) (show w.now < t.due by omega) (show t.due ≤ w.now + 4095 by omega)
  have hp := (Lies.at' hLn (j := s) (l := x.l) (by rw [List.getElem?_map, show s = 8 * 0 + s by omega, hx]; rfl)).2
  rw [hs] at hp
  refine g_region ?_
  refine gl_v rfl (o_move rfl) ?_
  refine gl_v rfl (o_nil rfl) ?_
  first | refine gl_v rfl (o_fldS rfl) ?_ | refine gl_v rfl (o_fld rfl) ?_
  refine gl_v rfl (o_load rfl (l := wcs (w.now + 1) w.seq ss1) (v := I64 ((w.now + 1 : Nat) : Int)) rfl) ?_
  refine gl_v rfl (o_remR (((w.now + 1) % 8 : Nat) : Int) (tmodn _ 8) rfl rfl (by decide)) ?_
  rw [← hs]
  refine gl_v rfl (o_assign rfl) ?_
  refine gl_nil ?_
  refine ge_then ?_
  refine g_seq ?_
  refine g_region ?_
  refine gl_v rfl (o_move rfl) ?_
  refine gl_v rfl (o_move rfl) ?_
  refine gl_v rfl (o_nil rfl) ?_
  first | refine gl_v rfl (o_fldS rfl) ?_ | refine gl_v rfl (o_fld rfl) ?_
  refine gl_v rfl (o_idxA (j := 0) rfl rfl (by decide)) ?_
  refine gl_v rfl (o_idxA rfl rfl hs8) ?_
  refine gl_v rfl (o_load rfl (wget (l := 0) hx)) ?_
  refine gl_v rfl (o_assign rfl) ?_
  refine gl_nil ?_
  refine ge_then ?_
  refine g_seq ?_
  refine g_fo (by repeat (first | exact .head | apply Sel.tail)) (map_at' hx) ?_
  refine g_region ?_
  refine gl_v rfl (o_move rfl) ?_
  refine gl_v rfl (o_move rfl) ?_
  refine gl_v rfl (o_nil rfl) ?_
  first | refine gl_v rfl (o_fldS rfl) ?_ | refine gl_v rfl (o_fld rfl) ?_
  refine gl_v rfl (o_idxA (j := 0) rfl rfl (by decide)) ?_
  refine gl_v rfl (o_idxA rfl rfl hs8) ?_
  refine gl_u (o_store rfl rfl rfl (by rw [wlen, hlen1]; simp [Nat.blt_eq]; omega)) ?_
  rw [wset1 (l := 0) (m := []) (n := 0) rfl]
  refine gl_nil ?_
  refine ge_imp (own_nil0 (e := 131) (sz := 3)) ?_
  refine ge_imp (fs (A := so ⟨none, 0, []⟩) (i := 8 * 0 + s) (l := ss1.map so) .head (by repeat (first | exact .head | apply Sel.tail)) (by simp; omega)) ?_
  refine ge_then ?_
  refine g_seq ?_
  refine g_region ?_
  refine gl_v rfl (o_move rfl) ?_
  refine gl_c rfl (o_call rfl (ids_spec x.a x.c x.l (dueL w) (hp.trans (List.Perm.of_eq (dueL_eq hw))) (hw.sq.sublist List.filter_sublist) (fun t ht => by have := hw.sb t (List.mem_filter.1 ht).1; omega) (by have h1 := hp.length_eq; have h2 := List.length_filter_le (fun t => decide (posn (w.now + 1) t.due = (w.now + 1) % 8)) w.T; have h3 := hw.len; omega)) (by repeat (first | exact .nil | (apply Part.cons; · (repeat (first | exact .head | apply Sel.tail)))))) ?_
  rintro _ R ⟨_, ⟨a', c', rfl, rfl⟩, rfl⟩
  try simp only [List.cons_append, List.nil_append]
  refine gl_v rfl (o_assign rfl) ?_
  refine gl_nil ?_
  refine ge_then ?_
  refine g_ret ?_
  refine ret1 (.inl rfl) rfl rfl [own (.slice a' (dueL w).length c') 22 1 (dueL w).length ((dueL w).map fun t => U64 t.id), wheel p (tickR w)] (⟨a', c', rfl, rfl⟩) (fun h st => Sat.swap (wheel_close (w := tickR w) (ss1.set (8 * 0 + s) ⟨none, 0, []⟩) (by have h1 := Lies.empty hLn (j0 := s) (by omega); rw [hs, tickR_eq hw, ← hs] at h1; rw [List.map_set, show 8 * 0 + s = s by omega]; exact h1) (by rw [wfam, List.map_set]; exact (To.sat (by repeat (first | exact .nil | exact .done .refl | (apply To.cons; · (repeat (first | exact .head | apply Sel.tail))) | exact .done (by repeat (first | exact .refl | apply Drop.skip)))))) h st))

end Go.Proofs.YtmohikdmdmplaaaGreat.L

