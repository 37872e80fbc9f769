/-
  Check: the laws CheckTurned and CheckTwice. Own work, printed in part by a program of its own.
-/
import Derived.Test.YtgmdlhlmffdbhaaDoorChkL
import Derived.Test.YtgmdlhlmffdbhaaDoorPgT
set_option linter.unusedSimpArgs false
set_option linter.unusedVariables false
set_option linter.unusedSectionVars false
namespace Go.Proofs.YtgmdlhlmffdbhaaDoor.L
open Go.L Go.L.Lx Go.L.Pg
attribute [local irreducible] isName
theorem splice_flat {α : Type} (f : α → List Value) (sz : Nat) (hf : ∀ x, (f x).length = sz) (x : α) : ∀ (l : List α) (i : Nat), i < l.length → splice (l.flatMap f) (i * sz) (f x) = (l.set i x).flatMap f := by
  intro l i hi
  have h1 := flat_length f sz hf l
  rw [splice_take _ _ _ (by rw [hf, h1]; have : (i + 1) * sz ≤ l.length * sz := Nat.mul_le_mul_right _ hi; rw [Nat.add_mul] at this; omega)]
  have h2 : (l.flatMap f).take (i * sz) = (l.take i).flatMap f := by
    conv => lhs; rw [← List.take_append_drop i l, List.flatMap_append]
    rw [List.take_append_of_le_length (by rw [flat_length f sz hf, List.length_take]; exact Nat.le_of_eq (by rw [Nat.min_eq_left (by omega)])), List.take_of_length_le (by rw [flat_length f sz hf, List.length_take, Nat.min_eq_left (by omega)]; exact Nat.le_refl _)]
  have h3 : (l.flatMap f).drop (i * sz + (f x).length) = (l.drop (i + 1)).flatMap f := by
    rw [hf, show i * sz + sz = (i + 1) * sz by rw [Nat.add_mul]; omega]; exact flat_drop f sz hf l (i + 1)
  rw [h2, h3, List.set_eq_take_append_cons_drop, if_pos hi, List.flatMap_append, List.flatMap_cons, List.append_assoc]
theorem all_one {α : Type} {f : α → List Value} (hf : ∀ x, (f x).all Value.oneCell' = true) (l : List α) : (l.flatMap f).all Value.oneCell' = true := by
  rw [List.all_flatMap, List.all_eq_true]; exact fun x _ => hf x
theorem flat_one {α : Type} (f : α → List Value) (l : List α) (x : α) : l.flatMap f ++ f x = (l ++ [x]).flatMap f := by simp
/-- check.Program, whatever the memory's parts are -/
theorem prog_l {pa : Option Addr} {pc n : Nat} {KK : List Knd} (hn : KK.length = n) (l : List Assn) (hA : ∀ h, Sat l h → PrgOk h pa pc KK) : FnS Tryd.prog 8 [.agg #[.slice pa n pc]] l (ErrP (prgF KK) l) := by
  subst hn
  have h0 := (prog' pa pc KK (starL l) hA).pre (As' := l) (fun h s => Sat.one s)
  refine h0.wk fun v Bs p => ?_
  cases e : prgF KK with
  | none =>
    rw [e] at p
    exact ⟨l, ⟨p.1, rfl⟩, fun h s => by rw [p.2] at s; have := Sat.flat.1 s; simpa using this⟩
  | some x =>
    obtain ⟨c, ws⟩ := x
    rw [e] at p
    obtain ⟨b, a, cp, h1, h2⟩ := p
    exact ⟨_, ⟨b, a, cp, h1, rfl⟩, fun h s => by
      rw [h2] at s
      refine Sat.tail (fun _ s => Sat.tail (fun _ s => ?_) s) s
      have := Sat.flat.1 s; simpa using this⟩
theorem own_rdh {h : Hp} {a : Option Addr} {c n m e sz : Nat} {xs : List Value} (s : SlO h (.slice a n c) e sz n xs) (hn : m = n) : RdH h a c m xs := by
  subst hn
  refine ⟨SlO.rd s, ?_⟩
  obtain ⟨_, ⟨h1, h2⟩ | ⟨b, cap, sp, h1, _, h3, _⟩⟩ := s
  · simp only [Value.slice.injEq] at h1; omega
  · simp only [Value.slice.injEq] at h1; omega
theorem prg_sat {W : World} {pa : Option Addr} {pc : Nat} {KK : List Knd} (hA : ∀ h, base W h → PrgOk h pa pc KK) {l r : List Assn} (s : Sel (base W) l r) : ∀ {h}, Sat l h → PrgOk h pa pc KK := fun {h} st => by
  obtain ⟨h1, h2, _, e, a, _⟩ := s.to st
  rw [e]; exact (hA _ a).imp fun b o hb => join_some hb
theorem prgOk_set {h : Hp} {pa a : Option Addr} {pc c i : Nat} {KK : List Knd} {k1 : Knd} (hb : PrgOk h pa pc KK) (o : RdH h a c (KK.set i k1).length ((KK.set i k1).flatMap kndC)) (hk : KndOk h k1) : PrgOk h a c (KK.set i k1) :=
  ⟨o, by have := hb.len; rw [List.length_set]; exact this, fun k hk' => (List.mem_or_eq_of_mem_set hk').elim (hb.kinds k) (· ▸ hk)⟩
theorem prgOk_add {h : Hp} {pa a : Option Addr} {pc c : Nat} {KK : List Knd} {k1 : Knd} (hb : PrgOk h pa pc KK) (o : RdH h a c (KK ++ [k1]).length ((KK ++ [k1]).flatMap kndC)) (hl : KK.length ≤ 8) (hk : KndOk h k1) : PrgOk h a c (KK ++ [k1]) :=
  ⟨o, by unfold ok63; rw [List.length_append]; simp only [List.length_cons, List.length_nil]; omega, fun k hk' => (List.mem_append.1 hk').elim (hb.kinds k) (fun e => List.mem_singleton.1 e ▸ hk)⟩
theorem kndOk_sts {h : Hp} {k : Knd} {a : Option Addr} {c : Nat} {S : List Sta} (hk : KndOk h k) (o : RdH h a c S.length (S.flatMap staC)) (hl : ok63 (S.length * 40)) (hs : ∀ s ∈ S, StaOk h s) : KndOk h { k with sa := a, sc := c, states := S } :=
  ⟨hk.name, hk.rdc, hk.lenc, hk.cases, o, hl, hs⟩
theorem staOk_rows {h : Hp} {s : Sta} {a : Option Addr} {c : Nat} {R : List Row} (hs : StaOk h s) (o : RdH h a c R.length (R.flatMap rowC)) (hl : ok63 (R.length * 56)) (hr : ∀ r ∈ R, RowOk h r) : StaOk h { s with ra := a, rc := c, rows := R } :=
  ⟨hs.name, o, hl, hr⟩
theorem SlR.from' {h : Hp} {a : Option Addr} {n c i sz : Nat} {xs : List Value} (s : SlR h (.slice a n c) n xs) (hx : xs.length = n * sz) (hi : i ≤ n) (hc : n ≤ c) : SlR h (.slice (if c = i then a else a.map (fun x : Addr => x.add (i * sz))) (n - i) (c - i)) (n - i) (xs.drop (i * sz)) := by
  rcases s with ⟨h1, h2, h3⟩ | ⟨b, off, spot, cap, h1, h2, h3⟩
  · simp only [Value.slice.injEq] at h1
    obtain ⟨rfl, _, rfl⟩ := h1
    obtain rfl : i = 0 := by omega
    exact .inl ⟨by simp [h3], by simp [h2], by omega⟩
  · simp only [Value.slice.injEq, true_and] at h1
    obtain ⟨rfl, rfl⟩ := h1
    by_cases e : c = i
    · rw [if_pos e]
      refine .inr ⟨b, off, spot, c - i, rfl, fun h0 => by omega, fun j x hx' => ?_⟩
      rw [List.drop_eq_nil_of_le (by rw [hx]; exact Nat.mul_le_mul_right _ (by omega))] at hx'; simp at hx'
    · rw [if_neg e]
      by_cases e0 : i * sz = 0
      · refine .inr ⟨b, off, spot, c - i, by simp [Addr.add, e0], fun h0 => h2 (by omega), fun j x hx' => h3 j x (by rw [List.getElem?_drop, e0, Nat.zero_add] at hx'; exact hx')⟩
      · rcases Nat.eq_zero_or_pos n with h0 | h0
        · subst h0; obtain rfl : i = 0 := by omega
          simp at e0
        · obtain rfl := h2 h0
          refine .inr ⟨b, off + i * sz, none, c - i, by simp [Addr.add, e0], fun _ => rfl, fun j x hx' => ?_⟩
          rw [List.getElem?_drop] at hx'
          obtain ⟨_, cs, e', fz, g1, g2⟩ := h3 _ x hx'
          exact ⟨rfl, cs, e', fz, g1, by rw [Nat.add_assoc]; exact g2⟩

set_option maxRecDepth 8000 in
set_option maxHeartbeats 4000000 in
theorem CheckTurned_spec {W : World} (hG : Gok W) (pa : Option Addr) (pc : Nat) (KK : List Knd) (hA : ∀ h, base W h → PrgOk h pa pc KK) (x1 x2 x3 : Int) (g1 : -9223372036854775808 ≤ x1 ∧ x1 ≤ 9223372036854775807) (g2 : -9223372036854775808 ≤ x2 ∧ x2 ≤ 9223372036854775807) (g3 : -9223372036854775808 ≤ x3 ∧ x3 ≤ 9223372036854775807) : FnS Tryd.prog 4 [.agg #[.slice pa KK.length pc], I64 x1, I64 x2, I64 x3] [base W] (fun u Bs => u = .bool true ∧ Bs = [base W]) := by
  refine fn_body Tryd.func4 rfl rfl rfl ?_
  intro W0 R
  simp only [List.zipIdx_cons, List.zipIdx_nil, List.map_cons, List.map_nil, Nat.zero_add, Nat.reduceAdd, List.cons_append, List.nil_append]
  obtain ⟨hb, hwb⟩ : ∃ h, base W h := ⟨hpOf W, fun _ _ => rfl⟩
  have hb0 := hA _ hwb
  have hKn := hb0.len; have hKc := hb0.rd.2
  haveI rK : RdA (.slice pa KK.length pc) (base W) KK.length (KK.flatMap kndC) := ⟨fun h => (hA _ h).rd.1⟩
  unfold ok63 at hKn
  
  refine g_seq ?_
  refine g_region ?_
  refine gl_n rfl (o_boxA rfl) ?_
  rintro _ _ ⟨b4, rfl, rfl⟩
  refine gl_v rfl (o_assign rfl) ?_
  refine gl_nil ?_
  refine ge_then ?_
  refine g_seq ?_
  refine g_seq ?_
  refine g_region ?_
  refine gl_c rfl (o_call rfl (alive_spec hG) (by repeat (first | exact .nil | (apply Part.cons; · (repeat (first | exact .head | apply Sel.tail)))))) ?_
  rintro _ R ⟨_, ⟨rfl, rfl⟩, rfl⟩
  try simp only [List.cons_append, List.nil_append]
  refine gl_v rfl (o_is (c := false) (by rfl) (o_not rfl)) ?_
  refine gl_nil ?_
  refine ge_then ?_
  refine g_cond_false rfl ?_
  refine g_skip ?_
  refine ge_then ?_
  refine g_seq ?_
  refine g_seq ?_
  refine g_region ?_
  refine gl_v rfl (o_move rfl) ?_
  refine gl_v rfl (o_lss rfl rfl) ?_
  refine gl_v rfl (o_move rfl) ?_
  refine gl_g rfl rfl (fun hc1 => ?_) (fun hc1 => ?_) rfl
  ·
    have hc1' := hc1
    first | replace hc1' := of_decide_eq_true hc1' | replace hc1' := lt_f hc1' | replace hc1' := le_f hc1' | replace hc1' := dec_f hc1' | replace hc1' := nlt_t hc1' | replace hc1' := nle_t hc1' | replace hc1' := ndec_t hc1' | replace hc1' := ndec_f hc1' | replace hc1' := nn_t hc1' | replace hc1' := nn_f hc1' | skip
    refine gl_v rfl (o_move rfl) ?_
    refine gl_gT rfl rfl hc1 ?_
    first | refine gl_v rfl (o_fldS rfl) ?_ | refine gl_v rfl (o_fld rfl) ?_
    refine gl_gT rfl rfl hc1 ?_
    first | refine gl_v rfl (o_load rfl rfl) ?_ | refine gl_v rfl (o_loadS rfl rfl) ?_ | refine gl_v rfl (o_loadC rfl) ?_
    refine gl_gT rfl rfl hc1 ?_
    refine gl_v rfl (o_lenL rfl) ?_
    refine gl_gT rfl rfl hc1 ?_
    refine gl_v rfl (o_geq rfl rfl) ?_
    refine gl_v rfl (o_pickF hc1 rfl rfl) ?_
    refine gl_v rfl (o_move rfl) ?_
    refine gl_g rfl rfl (fun hc2 => ?_) (fun hc2 => ?_) rfl
    ·
      have hc2' := hc2
      first | replace hc2' := of_decide_eq_true hc2' | replace hc2' := lt_f hc2' | replace hc2' := le_f hc2' | replace hc2' := dec_f hc2' | replace hc2' := nlt_t hc2' | replace hc2' := nle_t hc2' | replace hc2' := ndec_t hc2' | replace hc2' := ndec_f hc2' | replace hc2' := nn_t hc2' | replace hc2' := nn_f hc2' | skip
      refine gl_v rfl (o_move rfl) ?_
      refine gl_gT rfl rfl hc2 ?_
      refine gl_v rfl (o_lss rfl rfl) ?_
      refine gl_v rfl (o_pickF hc2 rfl rfl) ?_
      refine gl_v rfl (o_move rfl) ?_
      refine gl_g rfl rfl (fun hc3 => ?_) (fun hc3 => ?_) rfl
      ·
        have hc3' := hc3
        first | replace hc3' := of_decide_eq_true hc3' | replace hc3' := lt_f hc3' | replace hc3' := le_f hc3' | replace hc3' := dec_f hc3' | replace hc3' := nlt_t hc3' | replace hc3' := nle_t hc3' | replace hc3' := ndec_t hc3' | replace hc3' := ndec_f hc3' | replace hc3' := nn_t hc3' | replace hc3' := nn_f hc3' | skip
        refine gl_v rfl (o_move rfl) ?_
        refine gl_gT rfl rfl hc3 ?_
        first | refine gl_v rfl (o_fldS rfl) ?_ | refine gl_v rfl (o_fld rfl) ?_
        refine gl_gT rfl rfl hc3 ?_
        first | refine gl_v rfl (o_load rfl rfl) ?_ | refine gl_v rfl (o_loadS rfl rfl) ?_ | refine gl_v rfl (o_loadC rfl) ?_
        refine gl_gT rfl rfl hc3 ?_
        refine gl_v rfl (o_move rfl) ?_
        refine gl_gT rfl rfl hc3 ?_
        obtain ⟨i, rfl⟩ : ∃ i : Nat, x1 = (i : Int) := ⟨x1.toNat, by omega⟩
        obtain ⟨k, hk⟩ : ∃ k, KK[i]? = some k := ⟨_, List.getElem?_eq_getElem (by omega)⟩
        have hiL := (List.getElem?_eq_some_iff.1 hk).1
        have hkm := List.mem_of_getElem? hk
        have hkO := hb0.kinds k hkm
        have hSn := hkO.lens; have hSc := hkO.rds.2; have hCn := hkO.lenc
        haveI rS : RdA (.slice k.sa k.states.length k.sc) (base W) k.states.length (k.states.flatMap staC) := ⟨fun h => ((hA _ h).kinds k hkm).rds.1⟩
        unfold ok63 at hSn hCn
        
        refine gl_v rfl (o_idxS rfl rfl hiL) ?_
        refine gl_gT rfl rfl hc3 ?_
        first | refine gl_v rfl (o_fldS rfl) ?_ | refine gl_v rfl (o_fld rfl) ?_
        refine gl_gT rfl rfl hc3 ?_
        refine gl_v rfl (o_loadS rfl (flat_get kndC 5 kndC_len hk rfl)) ?_
        refine gl_gT rfl rfl hc3 ?_
        refine gl_v rfl (o_lenL rfl) ?_
        refine gl_gT rfl rfl hc3 ?_
        refine gl_v rfl (o_geq rfl rfl) ?_
        refine gl_v rfl (o_pickF hc3 rfl rfl) ?_
        refine gl_v rfl (o_move rfl) ?_
        refine gl_g rfl rfl (fun hc4 => ?_) (fun hc4 => ?_) rfl
        ·
          have hc4' := hc4
          first | replace hc4' := of_decide_eq_true hc4' | replace hc4' := lt_f hc4' | replace hc4' := le_f hc4' | replace hc4' := dec_f hc4' | replace hc4' := nlt_t hc4' | replace hc4' := nle_t hc4' | replace hc4' := ndec_t hc4' | replace hc4' := ndec_f hc4' | replace hc4' := nn_t hc4' | replace hc4' := nn_f hc4' | skip
          refine gl_v rfl (o_move rfl) ?_
          refine gl_gT rfl rfl hc4 ?_
          refine gl_v rfl (o_lss rfl rfl) ?_
          refine gl_v rfl (o_pickF hc4 rfl rfl) ?_
          refine gl_v rfl (o_move rfl) ?_
          refine gl_g rfl rfl (fun hc5 => ?_) (fun hc5 => ?_) rfl
          ·
            have hc5' := hc5
            first | replace hc5' := of_decide_eq_true hc5' | replace hc5' := lt_f hc5' | replace hc5' := le_f hc5' | replace hc5' := dec_f hc5' | replace hc5' := nlt_t hc5' | replace hc5' := nle_t hc5' | replace hc5' := ndec_t hc5' | replace hc5' := ndec_f hc5' | replace hc5' := nn_t hc5' | replace hc5' := nn_f hc5' | skip
            refine gl_v rfl (o_move rfl) ?_
            refine gl_gT rfl rfl hc5 ?_
            first | refine gl_v rfl (o_fldS rfl) ?_ | refine gl_v rfl (o_fld rfl) ?_
            refine gl_gT rfl rfl hc5 ?_
            first | refine gl_v rfl (o_load rfl rfl) ?_ | refine gl_v rfl (o_loadS rfl rfl) ?_ | refine gl_v rfl (o_loadC rfl) ?_
            refine gl_gT rfl rfl hc5 ?_
            refine gl_v rfl (o_move rfl) ?_
            refine gl_gT rfl rfl hc5 ?_
            refine gl_v rfl (o_idxS rfl rfl hiL) ?_
            refine gl_gT rfl rfl hc5 ?_
            first | refine gl_v rfl (o_fldS rfl) ?_ | refine gl_v rfl (o_fld rfl) ?_
            refine gl_gT rfl rfl hc5 ?_
            refine gl_v rfl (o_loadS rfl (flat_get kndC 5 kndC_len hk rfl)) ?_
            refine gl_gT rfl rfl hc5 ?_
            refine gl_v rfl (o_move rfl) ?_
            refine gl_gT rfl rfl hc5 ?_
            obtain ⟨j, rfl⟩ : ∃ j : Nat, x2 = (j : Int) := ⟨x2.toNat, by omega⟩
            obtain ⟨s, hs⟩ : ∃ s, k.states[j]? = some s := ⟨_, List.getElem?_eq_getElem (by omega)⟩
            have hjL := (List.getElem?_eq_some_iff.1 hs).1
            have hsm := List.mem_of_getElem? hs
            have hsO := hkO.states s hsm
            have hRn := hsO.len
            haveI rR : RdA (.slice s.ra s.rows.length s.rc) (base W) s.rows.length (s.rows.flatMap rowC) := ⟨fun h => (((hA _ h).kinds k hkm).states s hsm).rd.1⟩
            unfold ok63 at hRn
            
            refine gl_v rfl (o_idxS rfl rfl hjL) ?_
            refine gl_gT rfl rfl hc5 ?_
            first | refine gl_v rfl (o_fldS rfl) ?_ | refine gl_v rfl (o_fld rfl) ?_
            refine gl_gT rfl rfl hc5 ?_
            refine gl_v rfl (o_loadS rfl (flat_get staC 2 staC_len hs rfl)) ?_
            refine gl_gT rfl rfl hc5 ?_
            refine gl_v rfl (o_lenL rfl) ?_
            refine gl_gT rfl rfl hc5 ?_
            refine gl_v rfl (o_subR ((s.rows.length : Int) - 1) (by rw [wr_i64 (by omega)]) rfl rfl) ?_
            refine gl_gT rfl rfl hc5 ?_
            refine gl_v rfl (o_geq rfl rfl) ?_
            refine gl_v rfl (o_pickF hc5 rfl rfl) ?_
            refine gl_nil ?_
            refine ge_then ?_
            refine g_cond rfl (fun hc6 => ?_) (fun hc6 => ?_)
            ·
              first | replace hc6 := of_decide_eq_true hc6 | replace hc6 := lt_f hc6 | replace hc6 := le_f hc6 | replace hc6 := dec_f hc6 | replace hc6 := nlt_t hc6 | replace hc6 := nle_t hc6 | replace hc6 := ndec_t hc6 | replace hc6 := ndec_f hc6 | replace hc6 := nn_t hc6 | replace hc6 := nn_f hc6 | skip
              refine g_seq ?_
              refine g_region ?_
              refine gl_v rfl (o_assign rfl) ?_
              refine gl_nil ?_
              refine ge_then ?_
              refine g_ret ?_
              refine ge_then_ret ?_
              refine ret1 (.inl rfl) rfl rfl [base W] (⟨rfl, rfl⟩) (To.sat (by repeat (first | exact .nil | exact .done .refl | (apply To.cons; · (repeat (first | exact .head | apply Sel.tail))) | exact .done (by repeat (first | exact .refl | apply Drop.skip)))))
            ·
              first | replace hc6 := of_decide_eq_true hc6 | replace hc6 := lt_f hc6 | replace hc6 := le_f hc6 | replace hc6 := dec_f hc6 | replace hc6 := nlt_t hc6 | replace hc6 := nle_t hc6 | replace hc6 := ndec_t hc6 | replace hc6 := ndec_f hc6 | replace hc6 := nn_t hc6 | replace hc6 := nn_f hc6 | skip
              obtain ⟨m, rfl⟩ : ∃ m : Nat, x3 = (m : Int) := ⟨x3.toNat, by omega⟩
              obtain ⟨r, hr⟩ : ∃ r, s.rows[m]? = some r := ⟨_, List.getElem?_eq_getElem (by omega)⟩
              obtain ⟨r2, hr2⟩ : ∃ r, s.rows[m + 1]? = some r := ⟨_, List.getElem?_eq_getElem (by omega)⟩
              refine g_skip ?_
              refine ge_then ?_
              refine g_seq ?_
              refine g_region ?_
              refine gl_n rfl (o_buildS0) ?_
              rintro _ _ ⟨b59, rfl, rfl⟩
              first | refine gl_v rfl (o_fldS rfl) ?_ | refine gl_v rfl (o_fld rfl) ?_
              first | refine gl_v rfl (o_load rfl rfl) ?_ | refine gl_v rfl (o_loadS rfl rfl) ?_ | refine gl_v rfl (o_loadC rfl) ?_
              refine gl_n rfl (o_appendS rfl rfl (by repeat (first | exact .head | apply Sel.tail)) rfl (flat_length kndC 5 kndC_len KK) (all_one (fun _ => rfl) KK) (by omega) (by unfold maxLen; omega)) ?_
              rintro _ _ ⟨a62, c62, rfl, rfl⟩
              simp only [Nat.zero_add, List.nil_append]
              refine gl_v rfl (o_build rfl rfl) ?_
              refine gl_n rfl (o_alloc) ?_
              rintro _ _ ⟨b9, rfl, rfl⟩
              first | refine gl_u (o_storeSA rfl rfl rfl rfl (by simp; omega) (by simp)) ?_ | refine gl_u (o_storeA rfl rfl rfl rfl rfl) ?_
              refine gl_nil ?_
              refine ge_then ?_
              refine g_seq ?_
              refine g_region ?_
              first | refine gl_v rfl (o_fldS rfl) ?_ | refine gl_v rfl (o_fld rfl) ?_
              first | refine gl_v rfl (o_load rfl rfl) ?_ | refine gl_v rfl (o_loadS rfl rfl) ?_ | refine gl_v rfl (o_loadC rfl) ?_
              refine gl_v rfl (o_move rfl) ?_
              refine gl_v rfl (o_idxS rfl rfl hiL) ?_
              refine gl_v rfl (o_loadSA rfl (flat_take kndC 5 kndC_len hk) rfl) ?_
              refine gl_n rfl (o_alloc) ?_
              rintro _ _ ⟨b10, rfl, rfl⟩
              first | refine gl_u (o_storeSA rfl rfl rfl rfl (by simp; omega) (by simp)) ?_ | refine gl_u (o_storeA rfl rfl rfl rfl rfl) ?_
              refine gl_nil ?_
              refine ge_then ?_
              refine g_seq ?_
              refine g_region ?_
              refine gl_n rfl (o_buildS0) ?_
              rintro _ _ ⟨b69, rfl, rfl⟩
              first | refine gl_v rfl (o_fldS rfl) ?_ | refine gl_v rfl (o_fld rfl) ?_
              first | refine gl_v rfl (o_load rfl rfl) ?_ | refine gl_v rfl (o_loadS rfl rfl) ?_ | refine gl_v rfl (o_loadC rfl) ?_
              refine gl_n rfl (o_appendS rfl rfl (by repeat (first | exact .head | apply Sel.tail)) rfl (flat_length staC 2 staC_len k.states) (all_one (fun _ => rfl) k.states) (by omega) (by unfold maxLen; omega)) ?_
              rintro _ _ ⟨a72, c72, rfl, rfl⟩
              simp only [Nat.zero_add, List.nil_append]
              first | refine gl_v rfl (o_fldS rfl) ?_ | refine gl_v rfl (o_fld rfl) ?_
              first | refine gl_u (o_store rfl rfl rfl rfl) ?_ | refine gl_u (o_storeS rfl rfl rfl (by first | assumption | omega | simp)) ?_
              refine gl_nil ?_
              refine ge_then ?_
              refine g_seq ?_
              refine g_region ?_
              refine gl_n rfl (o_buildS0) ?_
              rintro _ _ ⟨b74, rfl, rfl⟩
              first | refine gl_v rfl (o_fldS rfl) ?_ | refine gl_v rfl (o_fld rfl) ?_
              first | refine gl_v rfl (o_load rfl rfl) ?_ | refine gl_v rfl (o_loadS rfl rfl) ?_ | refine gl_v rfl (o_loadC rfl) ?_
              refine gl_v rfl (o_move rfl) ?_
              refine gl_v rfl (o_idxS rfl rfl hjL) ?_
              first | refine gl_v rfl (o_fldS rfl) ?_ | refine gl_v rfl (o_fld rfl) ?_
              refine gl_v rfl (o_loadS rfl (flat_get staC 2 staC_len hs rfl)) ?_
              refine gl_n rfl (o_appendS rfl rfl (by repeat (first | exact .head | apply Sel.tail)) rfl (flat_length rowC 4 rowC_len s.rows) (all_one (fun _ => rfl) s.rows) (by omega) (by unfold maxLen; omega)) ?_
              rintro _ _ ⟨a81, c81, rfl, rfl⟩
              simp only [Nat.zero_add, List.nil_append]
              refine gl_v rfl (o_assign rfl) ?_
              refine gl_nil ?_
              refine ge_then ?_
              refine g_seq ?_
              refine g_region ?_
              refine gl_v rfl (o_move rfl) ?_
              refine gl_v rfl (o_move rfl) ?_
              refine gl_v rfl (o_idxS rfl rfl (show m < s.rows.length by omega)) ?_
              refine gl_v rfl (o_loadSA rfl (flat_take rowC 4 rowC_len hr) rfl) ?_
              refine gl_n rfl (o_alloc) ?_
              rintro _ _ ⟨b12, rfl, rfl⟩
              first | refine gl_u (o_storeSA rfl rfl rfl rfl (by simp; omega) (by simp)) ?_ | refine gl_u (o_storeA rfl rfl rfl rfl rfl) ?_
              refine gl_nil ?_
              refine ge_then ?_
              refine g_seq ?_
              refine g_region ?_
              refine gl_v rfl (o_move rfl) ?_
              refine gl_v rfl (o_move rfl) ?_
              refine gl_v rfl (o_move rfl) ?_
              refine gl_v rfl (o_move rfl) ?_
              refine gl_v rfl (o_addR ((m + 1 : Nat) : Int) (by rw [wr_i64 (by omega)]; omega) rfl rfl) ?_
              refine gl_v rfl (o_idxS rfl rfl (show m + 1 < s.rows.length by omega)) ?_
              refine gl_v rfl (o_loadSA rfl (flat_take rowC 4 rowC_len hr2) rfl) ?_
              refine gl_v rfl (o_idxS rfl rfl (show m < s.rows.length by omega)) ?_
              refine gl_u (o_storeSA rfl rfl rfl rfl (by rw [flat_length rowC 4 rowC_len, rowC_len]; omega) (Nat.succ_pos _)) ?_
              rw [splice_flat rowC 4 rowC_len r2 s.rows m (by omega)]
              refine gl_nil ?_
              refine ge_then ?_
              refine g_seq ?_
              refine g_region ?_
              refine gl_v rfl (o_move rfl) ?_
              refine gl_v rfl (o_move rfl) ?_
              refine gl_v rfl (o_addR ((m + 1 : Nat) : Int) (by rw [wr_i64 (by omega)]; omega) rfl rfl) ?_
              refine gl_v rfl (o_loadA (vs := rowC r) rfl rfl rfl) ?_
              refine gl_v rfl (o_idxS rfl rfl (show m + 1 < s.rows.length by omega)) ?_
              refine gl_u (o_storeSA rfl rfl rfl rfl (by rw [flat_length rowC 4 rowC_len, rowC_len, List.length_set]; omega) (Nat.succ_pos _)) ?_
              rw [splice_flat rowC 4 rowC_len r (s.rows.set m r2) (m + 1) (by rw [List.length_set]; omega)]
              refine gl_nil ?_
              refine ge_then ?_
              refine g_seq ?_
              refine g_draw [12] [] [(0, .loc), (1, .loc), (2, .loc), (3, .loc), (4, .loc), (5, .loc), (6, .loc), (7, .loc), (8, .loc), (9, .loc), (10, .loc), (11, .loc), (12, .eff)] [cel b10 41 [sv k.name, iv k.limit, iv k.within, Value.slice k.ca k.cases.length k.cc, Value.slice a72 k.states.length c72], own (.slice a72 k.states.length c72) 44 2 k.states.length (k.states.flatMap staC)] mixed (by kernel_rfl) ?_
              first | refine go_v rfl .none rfl (o_fldS rfl) ?_ | refine go_v rfl .none rfl (o_fld rfl) ?_
              first | refine go_v rfl .none rfl (o_load rfl rfl) ?_ | refine go_v rfl .none rfl (o_loadS rfl rfl) ?_ | refine go_v rfl .none rfl (o_loadC rfl) ?_
              refine go_v rfl .none rfl (o_move rfl) ?_
              first | refine go_v rfl .none rfl (o_fldS rfl) ?_ | refine go_v rfl .none rfl (o_fld rfl) ?_
              first | refine go_v rfl .none rfl (o_load rfl rfl) ?_ | refine go_v rfl .none rfl (o_loadS rfl rfl) ?_ | refine go_v rfl .none rfl (o_loadC rfl) ?_
              refine go_v rfl .none rfl (o_move rfl) ?_
              refine go_v rfl .none rfl (o_idxS rfl rfl hjL) ?_
              first | refine go_v rfl .none rfl (o_fldS rfl) ?_ | refine go_v rfl .none rfl (o_fld rfl) ?_
              refine go_v rfl .none rfl (o_loadS rfl (flat_get staC 2 staC_len hs rfl)) ?_
              refine go_v rfl .none rfl (o_move rfl) ?_
              refine go_v rfl .none rfl (o_build (cs := [sv s.name, Value.slice a81 s.rows.length c81]) rfl rfl) ?_
              refine go_v rfl .none rfl (o_idxS rfl rfl hjL) ?_
              refine go_u rfl .none (o_storeSA (vs := [sv s.name, Value.slice a81 s.rows.length c81]) rfl rfl rfl rfl (by rw [flat_length staC 2 staC_len]; simp only [List.length]; omega) (Nat.succ_pos _)) (fun hG => absurd hG (by decide)) ?_
              rw [show [sv s.name, Value.slice a81 s.rows.length c81] = staC { s with ra := a81, rc := c81, rows := ((s.rows.set m r2).set (m + 1) r) } by simp [staC], splice_flat staC 2 staC_len _ k.states j hjL]
              refine go_nil ?_
              refine ge_then ?_
              refine g_seq ?_
              refine g_region ?_
              first | refine gl_v rfl (o_fldS rfl) ?_ | refine gl_v rfl (o_fld rfl) ?_
              first | refine gl_v rfl (o_load rfl rfl) ?_ | refine gl_v rfl (o_loadS rfl rfl) ?_ | refine gl_v rfl (o_loadC rfl) ?_
              refine gl_v rfl (o_move rfl) ?_
              refine gl_v rfl (o_loadA (vs := [sv k.name, iv k.limit, iv k.within, Value.slice k.ca k.cases.length k.cc, Value.slice a72 k.states.length c72]) rfl rfl rfl) ?_
              refine gl_v rfl (o_idxS rfl rfl hiL) ?_
              refine gl_u (o_storeSA (vs := [sv k.name, iv k.limit, iv k.within, Value.slice k.ca k.cases.length k.cc, Value.slice a72 k.states.length c72]) rfl rfl rfl rfl (by rw [flat_length kndC 5 kndC_len]; simp only [List.length]; omega) (Nat.succ_pos _)) ?_
              rw [show [sv k.name, iv k.limit, iv k.within, Value.slice k.ca k.cases.length k.cc, Value.slice a72 k.states.length c72] = kndC { k with sa := a72, sc := c72, states := k.states.set j { s with ra := a81, rc := c81, rows := ((s.rows.set m r2).set (m + 1) r) } } by simp [kndC], splice_flat kndC 5 kndC_len _ KK i hiL]
              refine gl_nil ?_
              refine ge_then ?_
              refine g_seq ?_
              rcases hR : prgF KK with _ | ⟨c, ws⟩
              ·
                have hQ := (turned_ok hk hs (swap_perm hr hr2) a81 a72 c81 c72).2 hR
                refine g_draw [1, 4] [1, 4] [(0, .loc), (3, .stab), (1, .eff), (2, .stab), (4, .eff), (5, .loc), (6, .loc), (7, .loc)] [cel b9 24 [.slice a62 KK.length c62], cel b4 24 [.slice pa KK.length pc], own (.slice a62 KK.length c62) 41 5 KK.length ((KK.set i { k with sa := a72, sc := c72, states := k.states.set j { s with ra := a81, rc := c81, rows := ((s.rows.set m r2).set (m + 1) r) } }).flatMap kndC), own (.slice a72 k.states.length c72) 44 2 k.states.length ((k.states.set j { s with ra := a81, rc := c81, rows := ((s.rows.set m r2).set (m + 1) r) }).flatMap staC), own (.slice a81 s.rows.length c81) 47 4 s.rows.length (((s.rows.set m r2).set (m + 1) r).flatMap rowC), base W] mixed (by kernel_rfl) ?_
                refine go_v rfl .none rfl (o_loadA (vs := [Value.slice pa KK.length pc]) rfl rfl rfl) ?_
                refine go_vs rfl .none rfl (o_loadA (vs := [Value.slice a62 KK.length c62]) rfl rfl rfl) (To.sat (by repeat (first | exact .nil | exact .done .refl | (apply To.cons; · (repeat (first | exact .head | apply Sel.tail))) | exact .done (by repeat (first | exact .refl | apply Drop.skip))))) ?_
                refine go_c rfl .none rfl (o_call rfl (ep_none (prog' pa pc KK (base W) hA) hR) (by repeat (first | exact .nil | (apply Part.cons; · (repeat (first | exact .head | apply Sel.tail)))))) ?_
                rintro _ R ⟨_, ⟨rfl, rfl⟩, rfl⟩
                try simp only [List.cons_append, List.nil_append]
                refine ⟨(fun _ => (To.sat (by repeat (first | exact .nil | exact .done .refl | (apply To.cons; · (repeat (first | exact .head | apply Sel.tail))) | exact .done (by repeat (first | exact .refl | apply Drop.skip)))))), ?_⟩
                refine go_vs rfl .none rfl (o_eqlnI rfl) (To.sat (by repeat (first | exact .nil | exact .done .refl | (apply To.cons; · (repeat (first | exact .head | apply Sel.tail))) | exact .done (by repeat (first | exact .refl | apply Drop.skip))))) ?_
                refine go_c rfl .none rfl (o_call rfl (ep_none (prog_l (pa := a62) (pc := c62) (n := KK.length) (KK := KK.set i { k with sa := a72, sc := c72, states := k.states.set j { s with ra := a81, rc := c81, rows := ((s.rows.set m r2).set (m + 1) r) } }) (by rw [List.length_set]) [own (.slice a62 KK.length c62) 41 5 KK.length ((KK.set i { k with sa := a72, sc := c72, states := k.states.set j { s with ra := a81, rc := c81, rows := ((s.rows.set m r2).set (m + 1) r) } }).flatMap kndC), own (.slice a72 k.states.length c72) 44 2 k.states.length ((k.states.set j { s with ra := a81, rc := c81, rows := ((s.rows.set m r2).set (m + 1) r) }).flatMap staC), own (.slice a81 s.rows.length c81) 47 4 s.rows.length (((s.rows.set m r2).set (m + 1) r).flatMap rowC), base W] (fun h st => prgOk_set (prg_sat hA (by repeat (first | exact .head | apply Sel.tail)) st) (own_rdh (OwS.get (v := .slice a62 KK.length c62) st) (by rw [List.length_set])) (kndOk_sts ((prg_sat hA (by repeat (first | exact .head | apply Sel.tail)) st).kinds k hkm) (own_rdh (OwS.get (v := .slice a72 k.states.length c72) st) (by rw [List.length_set])) (by unfold ok63; rw [List.length_set]; omega) (fun s' hs' => (List.mem_or_eq_of_mem_set hs').elim (((prg_sat hA (by repeat (first | exact .head | apply Sel.tail)) st).kinds k hkm).states s') (fun e => e ▸ staOk_rows ((((prg_sat hA (by repeat (first | exact .head | apply Sel.tail)) st).kinds k hkm)).states s hsm) (own_rdh (OwS.get (v := .slice a81 s.rows.length c81) st) (by rw [List.length_set, List.length_set])) (by unfold ok63; rw [List.length_set, List.length_set]; omega) (fun r' hr' => ((((prg_sat hA (by repeat (first | exact .head | apply Sel.tail)) st).kinds k hkm)).states s hsm).rows r' ((swap_perm hr hr2).mem_iff.1 hr'))))))) hQ) (by repeat (first | exact .nil | (apply Part.cons; · (repeat (first | exact .head | apply Sel.tail)))))) ?_
                rintro _ R ⟨_, ⟨rfl, rfl⟩, rfl⟩
                try simp only [List.cons_append, List.nil_append]
                refine ⟨(fun _ => (To.sat (by repeat (first | exact .nil | exact .done .refl | (apply To.cons; · (repeat (first | exact .head | apply Sel.tail))) | exact .done (by repeat (first | exact .refl | apply Drop.skip)))))), ?_⟩
                refine go_v rfl .none rfl (o_eqlnI rfl) ?_
                refine go_v rfl .none rfl (o_is (c := true) (by rfl) (o_eqlb rfl rfl)) ?_
                refine go_v rfl .none rfl (o_assign rfl) ?_
                refine go_nil ?_
                refine ge_then ?_
                refine g_ret ?_
                refine ret1 (.inl rfl) rfl rfl [base W] (⟨rfl, rfl⟩) (To.sat (by repeat (first | exact .nil | exact .done .refl | (apply To.cons; · (repeat (first | exact .head | apply Sel.tail))) | exact .done (by repeat (first | exact .refl | apply Drop.skip)))))
              ·
                obtain ⟨⟨c', ws'⟩, hQ⟩ := Option.ne_none_iff_exists'.1 (fun e => by rw [(turned_ok hk hs (swap_perm hr hr2) a81 a72 c81 c72).1 e] at hR; cases hR)
                refine g_draw [1, 4] [1, 4] [(0, .loc), (3, .stab), (1, .eff), (2, .stab), (4, .eff), (5, .loc), (6, .loc), (7, .loc)] [cel b9 24 [.slice a62 KK.length c62], cel b4 24 [.slice pa KK.length pc], own (.slice a62 KK.length c62) 41 5 KK.length ((KK.set i { k with sa := a72, sc := c72, states := k.states.set j { s with ra := a81, rc := c81, rows := ((s.rows.set m r2).set (m + 1) r) } }).flatMap kndC), own (.slice a72 k.states.length c72) 44 2 k.states.length ((k.states.set j { s with ra := a81, rc := c81, rows := ((s.rows.set m r2).set (m + 1) r) }).flatMap staC), own (.slice a81 s.rows.length c81) 47 4 s.rows.length (((s.rows.set m r2).set (m + 1) r).flatMap rowC), base W] mixed (by kernel_rfl) ?_
                refine go_v rfl .none rfl (o_loadA (vs := [Value.slice pa KK.length pc]) rfl rfl rfl) ?_
                refine go_vs rfl .none rfl (o_loadA (vs := [Value.slice a62 KK.length c62]) rfl rfl rfl) (To.sat (by repeat (first | exact .nil | exact .done .refl | (apply To.cons; · (repeat (first | exact .head | apply Sel.tail))) | exact .done (by repeat (first | exact .refl | apply Drop.skip))))) ?_
                refine go_c rfl .none rfl (o_call rfl (ep_some (prog' pa pc KK (base W) hA) hR) (by repeat (first | exact .nil | (apply Part.cons; · (repeat (first | exact .head | apply Sel.tail)))))) ?_
                rintro _ R ⟨_, ⟨e1, d1, f1, rfl, rfl⟩, rfl⟩
                try simp only [List.cons_append, List.nil_append]
                refine ⟨(fun _ => (To.sat (by repeat (first | exact .nil | exact .done .refl | (apply To.cons; · (repeat (first | exact .head | apply Sel.tail))) | exact .done (by repeat (first | exact .refl | apply Drop.skip)))))), ?_⟩
                refine go_vs rfl .none rfl (o_eqlIn rfl) (To.sat (by repeat (first | exact .nil | exact .done .refl | (apply To.cons; · (repeat (first | exact .head | apply Sel.tail))) | exact .done (by repeat (first | exact .refl | apply Drop.skip))))) ?_
                refine go_c rfl .none rfl (o_call rfl (ep_some (prog_l (pa := a62) (pc := c62) (n := KK.length) (KK := KK.set i { k with sa := a72, sc := c72, states := k.states.set j { s with ra := a81, rc := c81, rows := ((s.rows.set m r2).set (m + 1) r) } }) (by rw [List.length_set]) [own (.slice a62 KK.length c62) 41 5 KK.length ((KK.set i { k with sa := a72, sc := c72, states := k.states.set j { s with ra := a81, rc := c81, rows := ((s.rows.set m r2).set (m + 1) r) } }).flatMap kndC), own (.slice a72 k.states.length c72) 44 2 k.states.length ((k.states.set j { s with ra := a81, rc := c81, rows := ((s.rows.set m r2).set (m + 1) r) }).flatMap staC), own (.slice a81 s.rows.length c81) 47 4 s.rows.length (((s.rows.set m r2).set (m + 1) r).flatMap rowC), base W] (fun h st => prgOk_set (prg_sat hA (by repeat (first | exact .head | apply Sel.tail)) st) (own_rdh (OwS.get (v := .slice a62 KK.length c62) st) (by rw [List.length_set])) (kndOk_sts ((prg_sat hA (by repeat (first | exact .head | apply Sel.tail)) st).kinds k hkm) (own_rdh (OwS.get (v := .slice a72 k.states.length c72) st) (by rw [List.length_set])) (by unfold ok63; rw [List.length_set]; omega) (fun s' hs' => (List.mem_or_eq_of_mem_set hs').elim (((prg_sat hA (by repeat (first | exact .head | apply Sel.tail)) st).kinds k hkm).states s') (fun e => e ▸ staOk_rows ((((prg_sat hA (by repeat (first | exact .head | apply Sel.tail)) st).kinds k hkm)).states s hsm) (own_rdh (OwS.get (v := .slice a81 s.rows.length c81) st) (by rw [List.length_set, List.length_set])) (by unfold ok63; rw [List.length_set, List.length_set]; omega) (fun r' hr' => ((((prg_sat hA (by repeat (first | exact .head | apply Sel.tail)) st).kinds k hkm)).states s hsm).rows r' ((swap_perm hr hr2).mem_iff.1 hr'))))))) hQ) (by repeat (first | exact .nil | (apply Part.cons; · (repeat (first | exact .head | apply Sel.tail)))))) ?_
                rintro _ R ⟨_, ⟨e2, d2, f2, rfl, rfl⟩, rfl⟩
                try simp only [List.cons_append, List.nil_append]
                refine ⟨(fun _ => (To.sat (by repeat (first | exact .nil | exact .done .refl | (apply To.cons; · (repeat (first | exact .head | apply Sel.tail))) | exact .done (by repeat (first | exact .refl | apply Drop.skip)))))), ?_⟩
                refine go_v rfl .none rfl (o_eqlIn rfl) ?_
                refine go_v rfl .none rfl (o_is (c := true) (by rfl) (o_eqlb rfl rfl)) ?_
                refine go_v rfl .none rfl (o_assign rfl) ?_
                refine go_nil ?_
                refine ge_then ?_
                refine g_ret ?_
                refine ret1 (.inl rfl) rfl rfl [base W] (⟨rfl, rfl⟩) (To.sat (by repeat (first | exact .nil | exact .done .refl | (apply To.cons; · (repeat (first | exact .head | apply Sel.tail))) | exact .done (by repeat (first | exact .refl | apply Drop.skip)))))
          ·
            have hc5' := hc5
            first | replace hc5' := of_decide_eq_true hc5' | replace hc5' := lt_f hc5' | replace hc5' := le_f hc5' | replace hc5' := dec_f hc5' | replace hc5' := nlt_t hc5' | replace hc5' := nle_t hc5' | replace hc5' := ndec_t hc5' | replace hc5' := ndec_f hc5' | replace hc5' := nn_t hc5' | replace hc5' := nn_f hc5' | skip
            simp only [putO]
            refine gl_gF rfl rfl hc5 rfl ?_
            refine gl_gF rfl rfl hc5 rfl ?_
            refine gl_gF rfl rfl hc5 rfl ?_
            refine gl_gF rfl rfl hc5 rfl ?_
            refine gl_gF rfl rfl hc5 rfl ?_
            refine gl_gF rfl rfl hc5 rfl ?_
            refine gl_gF rfl rfl hc5 rfl ?_
            refine gl_gF rfl rfl hc5 rfl ?_
            refine gl_gF rfl rfl hc5 rfl ?_
            refine gl_gF rfl rfl hc5 rfl ?_
            refine gl_gF rfl rfl hc5 rfl ?_
            refine gl_gF rfl rfl hc5 rfl ?_
            refine gl_gF rfl rfl hc5 rfl ?_
            refine gl_v rfl (o_pickT hc5 rfl rfl) ?_
            refine gl_nil ?_
            refine ge_then ?_
            refine g_cond_true rfl ?_
            refine g_seq ?_
            refine g_region ?_
            refine gl_v rfl (o_assign rfl) ?_
            refine gl_nil ?_
            refine ge_then ?_
            refine g_ret ?_
            refine ge_then_ret ?_
            refine ret1 (.inl rfl) rfl rfl [base W] (⟨rfl, rfl⟩) (To.sat (by repeat (first | exact .nil | exact .done .refl | (apply To.cons; · (repeat (first | exact .head | apply Sel.tail))) | exact .done (by repeat (first | exact .refl | apply Drop.skip)))))
        ·
          have hc4' := hc4
          first | replace hc4' := of_decide_eq_true hc4' | replace hc4' := lt_f hc4' | replace hc4' := le_f hc4' | replace hc4' := dec_f hc4' | replace hc4' := nlt_t hc4' | replace hc4' := nle_t hc4' | replace hc4' := ndec_t hc4' | replace hc4' := ndec_f hc4' | replace hc4' := nn_t hc4' | replace hc4' := nn_f hc4' | skip
          simp only [putO]
          refine gl_gF rfl rfl hc4 rfl ?_
          refine gl_v rfl (o_pickT hc4 rfl rfl) ?_
          refine gl_v rfl (o_move rfl) ?_
          refine gl_gF rfl rfl rfl rfl ?_
          refine gl_gF rfl rfl rfl rfl ?_
          refine gl_gF rfl rfl rfl rfl ?_
          refine gl_gF rfl rfl rfl rfl ?_
          refine gl_gF rfl rfl rfl rfl ?_
          refine gl_gF rfl rfl rfl rfl ?_
          refine gl_gF rfl rfl rfl rfl ?_
          refine gl_gF rfl rfl rfl rfl ?_
          refine gl_gF rfl rfl rfl rfl ?_
          refine gl_gF rfl rfl rfl rfl ?_
          refine gl_gF rfl rfl rfl rfl ?_
          refine gl_gF rfl rfl rfl rfl ?_
          refine gl_gF rfl rfl rfl rfl ?_
          refine gl_gF rfl rfl rfl rfl ?_
          refine gl_v rfl (o_pickT rfl rfl rfl) ?_
          refine gl_nil ?_
          refine ge_then ?_
          refine g_cond_true rfl ?_
          refine g_seq ?_
          refine g_region ?_
          refine gl_v rfl (o_assign rfl) ?_
          refine gl_nil ?_
          refine ge_then ?_
          refine g_ret ?_
          refine ge_then_ret ?_
          refine ret1 (.inl rfl) rfl rfl [base W] (⟨rfl, rfl⟩) (To.sat (by repeat (first | exact .nil | exact .done .refl | (apply To.cons; · (repeat (first | exact .head | apply Sel.tail))) | exact .done (by repeat (first | exact .refl | apply Drop.skip)))))
      ·
        have hc3' := hc3
        first | replace hc3' := of_decide_eq_true hc3' | replace hc3' := lt_f hc3' | replace hc3' := le_f hc3' | replace hc3' := dec_f hc3' | replace hc3' := nlt_t hc3' | replace hc3' := nle_t hc3' | replace hc3' := ndec_t hc3' | replace hc3' := ndec_f hc3' | replace hc3' := nn_t hc3' | replace hc3' := nn_f hc3' | skip
        simp only [putO]
        refine gl_gF rfl rfl hc3 rfl ?_
        refine gl_gF rfl rfl hc3 rfl ?_
        refine gl_gF rfl rfl hc3 rfl ?_
        refine gl_gF rfl rfl hc3 rfl ?_
        refine gl_gF rfl rfl hc3 rfl ?_
        refine gl_gF rfl rfl hc3 rfl ?_
        refine gl_gF rfl rfl hc3 rfl ?_
        refine gl_gF rfl rfl hc3 rfl ?_
        refine gl_v rfl (o_pickT hc3 rfl rfl) ?_
        refine gl_v rfl (o_move rfl) ?_
        refine gl_gF rfl rfl rfl rfl ?_
        refine gl_gF rfl rfl rfl rfl ?_
        refine gl_v rfl (o_pickT rfl rfl rfl) ?_
        refine gl_v rfl (o_move rfl) ?_
        refine gl_gF rfl rfl rfl rfl ?_
        refine gl_gF rfl rfl rfl rfl ?_
        refine gl_gF rfl rfl rfl rfl ?_
        refine gl_gF rfl rfl rfl rfl ?_
        refine gl_gF rfl rfl rfl rfl ?_
        refine gl_gF rfl rfl rfl rfl ?_
        refine gl_gF rfl rfl rfl rfl ?_
        refine gl_gF rfl rfl rfl rfl ?_
        refine gl_gF rfl rfl rfl rfl ?_
        refine gl_gF rfl rfl rfl rfl ?_
        refine gl_gF rfl rfl rfl rfl ?_
        refine gl_gF rfl rfl rfl rfl ?_
        refine gl_gF rfl rfl rfl rfl ?_
        refine gl_gF rfl rfl rfl rfl ?_
        refine gl_v rfl (o_pickT rfl rfl rfl) ?_
        refine gl_nil ?_
        refine ge_then ?_
        refine g_cond_true rfl ?_
        refine g_seq ?_
        refine g_region ?_
        refine gl_v rfl (o_assign rfl) ?_
        refine gl_nil ?_
        refine ge_then ?_
        refine g_ret ?_
        refine ge_then_ret ?_
        refine ret1 (.inl rfl) rfl rfl [base W] (⟨rfl, rfl⟩) (To.sat (by repeat (first | exact .nil | exact .done .refl | (apply To.cons; · (repeat (first | exact .head | apply Sel.tail))) | exact .done (by repeat (first | exact .refl | apply Drop.skip)))))
    ·
      have hc2' := hc2
      first | replace hc2' := of_decide_eq_true hc2' | replace hc2' := lt_f hc2' | replace hc2' := le_f hc2' | replace hc2' := dec_f hc2' | replace hc2' := nlt_t hc2' | replace hc2' := nle_t hc2' | replace hc2' := ndec_t hc2' | replace hc2' := ndec_f hc2' | replace hc2' := nn_t hc2' | replace hc2' := nn_f hc2' | skip
      simp only [putO]
      refine gl_gF rfl rfl hc2 rfl ?_
      refine gl_v rfl (o_pickT hc2 rfl rfl) ?_
      refine gl_v rfl (o_move rfl) ?_
      refine gl_gF rfl rfl rfl rfl ?_
      refine gl_gF rfl rfl rfl rfl ?_
      refine gl_gF rfl rfl rfl rfl ?_
      refine gl_gF rfl rfl rfl rfl ?_
      refine gl_gF rfl rfl rfl rfl ?_
      refine gl_gF rfl rfl rfl rfl ?_
      refine gl_gF rfl rfl rfl rfl ?_
      refine gl_gF rfl rfl rfl rfl ?_
      refine gl_gF rfl rfl rfl rfl ?_
      refine gl_v rfl (o_pickT rfl rfl rfl) ?_
      refine gl_v rfl (o_move rfl) ?_
      refine gl_gF rfl rfl rfl rfl ?_
      refine gl_gF rfl rfl rfl rfl ?_
      refine gl_v rfl (o_pickT rfl rfl rfl) ?_
      refine gl_v rfl (o_move rfl) ?_
      refine gl_gF rfl rfl rfl rfl ?_
      refine gl_gF rfl rfl rfl rfl ?_
      refine gl_gF rfl rfl rfl rfl ?_
      refine gl_gF rfl rfl rfl rfl ?_
      refine gl_gF rfl rfl rfl rfl ?_
      refine gl_gF rfl rfl rfl rfl ?_
      refine gl_gF rfl rfl rfl rfl ?_
      refine gl_gF rfl rfl rfl rfl ?_
      refine gl_gF rfl rfl rfl rfl ?_
      refine gl_gF rfl rfl rfl rfl ?_
      refine gl_gF rfl rfl rfl rfl ?_
      refine gl_gF rfl rfl rfl rfl ?_
      refine gl_gF rfl rfl rfl rfl ?_
      refine gl_gF rfl rfl rfl rfl ?_
      refine gl_v rfl (o_pickT rfl rfl rfl) ?_
      refine gl_nil ?_
      refine ge_then ?_
      refine g_cond_true rfl ?_
      refine g_seq ?_
      refine g_region ?_
      refine gl_v rfl (o_assign rfl) ?_
      refine gl_nil ?_
      refine ge_then ?_
      refine g_ret ?_
      refine ge_then_ret ?_
      refine ret1 (.inl rfl) rfl rfl [base W] (⟨rfl, rfl⟩) (To.sat (by repeat (first | exact .nil | exact .done .refl | (apply To.cons; · (repeat (first | exact .head | apply Sel.tail))) | exact .done (by repeat (first | exact .refl | apply Drop.skip)))))
  ·
    have hc1' := hc1
    first | replace hc1' := of_decide_eq_true hc1' | replace hc1' := lt_f hc1' | replace hc1' := le_f hc1' | replace hc1' := dec_f hc1' | replace hc1' := nlt_t hc1' | replace hc1' := nle_t hc1' | replace hc1' := ndec_t hc1' | replace hc1' := ndec_f hc1' | replace hc1' := nn_t hc1' | replace hc1' := nn_f hc1' | skip
    simp only [putO]
    refine gl_gF rfl rfl hc1 rfl ?_
    refine gl_gF rfl rfl hc1 rfl ?_
    refine gl_gF rfl rfl hc1 rfl ?_
    refine gl_gF rfl rfl hc1 rfl ?_
    refine gl_v rfl (o_pickT hc1 rfl rfl) ?_
    refine gl_v rfl (o_move rfl) ?_
    refine gl_gF rfl rfl rfl rfl ?_
    refine gl_gF rfl rfl rfl rfl ?_
    refine gl_v rfl (o_pickT rfl rfl rfl) ?_
    refine gl_v rfl (o_move rfl) ?_
    refine gl_gF rfl rfl rfl rfl ?_
    refine gl_gF rfl rfl rfl rfl ?_
    refine gl_gF rfl rfl rfl rfl ?_
    refine gl_gF rfl rfl rfl rfl ?_
    refine gl_gF rfl rfl rfl rfl ?_
    refine gl_gF rfl rfl rfl rfl ?_
    refine gl_gF rfl rfl rfl rfl ?_
    refine gl_gF rfl rfl rfl rfl ?_
    refine gl_gF rfl rfl rfl rfl ?_
    refine gl_v rfl (o_pickT rfl rfl rfl) ?_
    refine gl_v rfl (o_move rfl) ?_
    refine gl_gF rfl rfl rfl rfl ?_
    refine gl_gF rfl rfl rfl rfl ?_
    refine gl_v rfl (o_pickT rfl rfl rfl) ?_
    refine gl_v rfl (o_move rfl) ?_
    refine gl_gF rfl rfl rfl rfl ?_
    refine gl_gF rfl rfl rfl rfl ?_
    refine gl_gF rfl rfl rfl rfl ?_
    refine gl_gF rfl rfl rfl rfl ?_
    refine gl_gF rfl rfl rfl rfl ?_
    refine gl_gF rfl rfl rfl rfl ?_
    refine gl_gF rfl rfl rfl rfl ?_
    refine gl_gF rfl rfl rfl rfl ?_
    refine gl_gF rfl rfl rfl rfl ?_
    refine gl_gF rfl rfl rfl rfl ?_
    refine gl_gF rfl rfl rfl rfl ?_
    refine gl_gF rfl rfl rfl rfl ?_
    refine gl_gF rfl rfl rfl rfl ?_
    refine gl_gF rfl rfl rfl rfl ?_
    refine gl_v rfl (o_pickT rfl rfl rfl) ?_
    refine gl_nil ?_
    refine ge_then ?_
    refine g_cond_true rfl ?_
    refine g_seq ?_
    refine g_region ?_
    refine gl_v rfl (o_assign rfl) ?_
    refine gl_nil ?_
    refine ge_then ?_
    refine g_ret ?_
    refine ge_then_ret ?_
    refine ret1 (.inl rfl) rfl rfl [base W] (⟨rfl, rfl⟩) (To.sat (by repeat (first | exact .nil | exact .done .refl | (apply To.cons; · (repeat (first | exact .head | apply Sel.tail))) | exact .done (by repeat (first | exact .refl | apply Drop.skip)))))

end Go.Proofs.YtgmdlhlmffdbhaaDoor.L
