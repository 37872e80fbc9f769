/-
  Check: the law CheckTwice. Own work, printed in part by a program of its own.
-/
import Derived.Test.YtgmdlhlmffdbhaaDoorChkM
import Derived.Test.YtgmdlhlmffdbhaaDoorPgT
set_option linter.unusedSimpArgs false
set_option linter.unusedVariables false
set_option linter.unusedSectionVars false
namespace Go.Proofs.YtgmdlhlmffdbhaaDoor.L
open Go.L Go.L.Lx Go.L.Pg
attribute [local irreducible] isName
theorem splice_flat {α : Type} (f : α → List Value) (sz : Nat) (hf : ∀ x, (f x).length = sz) (x : α) : ∀ (l : List α) (i : Nat), i < l.length → splice (l.flatMap f) (i * sz) (f x) = (l.set i x).flatMap f := by
  intro l i hi
  have h1 := flat_length f sz hf l
  rw [splice_take _ _ _ (by rw [hf, h1]; have : (i + 1) * sz ≤ l.length * sz := Nat.mul_le_mul_right _ hi; rw [Nat.add_mul] at this; omega)]
  have h2 : (l.flatMap f).take (i * sz) = (l.take i).flatMap f := by
    conv => lhs; rw [← List.take_append_drop i l, List.flatMap_append]
    rw [List.take_append_of_le_length (by rw [flat_length f sz hf, List.length_take]; exact Nat.le_of_eq (by rw [Nat.min_eq_left (by omega)])), List.take_of_length_le (by rw [flat_length f sz hf, List.length_take, Nat.min_eq_left (by omega)]; exact Nat.le_refl _)]
  have h3 : (l.flatMap f).drop (i * sz + (f x).length) = (l.drop (i + 1)).flatMap f := by
    rw [hf, show i * sz + sz = (i + 1) * sz by rw [Nat.add_mul]; omega]; exact flat_drop f sz hf l (i + 1)
  rw [h2, h3, List.set_eq_take_append_cons_drop, if_pos hi, List.flatMap_append, List.flatMap_cons, List.append_assoc]
theorem all_one {α : Type} {f : α → List Value} (hf : ∀ x, (f x).all Value.oneCell' = true) (l : List α) : (l.flatMap f).all Value.oneCell' = true := by
  rw [List.all_flatMap, List.all_eq_true]; exact fun x _ => hf x
theorem flat_one {α : Type} (f : α → List Value) (l : List α) (x : α) : l.flatMap f ++ f x = (l ++ [x]).flatMap f := by simp
/-- check.Program, whatever the memory's parts are -/
theorem prog_l {pa : Option Addr} {pc n : Nat} {KK : List Knd} (hn : KK.length = n) (l : List Assn) (hA : ∀ h, Sat l h → PrgOk h pa pc KK) : FnS Tryd.prog 8 [.agg #[.slice pa n pc]] l (ErrP (prgF KK) l) := by
  subst hn
  have h0 := (prog' pa pc KK (starL l) hA).pre (As' := l) (fun h s => Sat.one s)
  refine h0.wk fun v Bs p => ?_
  cases e : prgF KK with
  | none =>
    rw [e] at p
    exact ⟨l, ⟨p.1, rfl⟩, fun h s => by rw [p.2] at s; have := Sat.flat.1 s; simpa using this⟩
  | some x =>
    obtain ⟨c, ws⟩ := x
    rw [e] at p
    obtain ⟨b, a, cp, h1, h2⟩ := p
    exact ⟨_, ⟨b, a, cp, h1, rfl⟩, fun h s => by
      rw [h2] at s
      refine Sat.tail (fun _ s => Sat.tail (fun _ s => ?_) s) s
      have := Sat.flat.1 s; simpa using this⟩
theorem own_rdh {h : Hp} {a : Option Addr} {c n m e sz : Nat} {xs : List Value} (s : SlO h (.slice a n c) e sz n xs) (hn : m = n) : RdH h a c m xs := by
  subst hn
  refine ⟨SlO.rd s, ?_⟩
  obtain ⟨_, ⟨h1, h2⟩ | ⟨b, cap, sp, h1, _, h3, _⟩⟩ := s
  · simp only [Value.slice.injEq] at h1; omega
  · simp only [Value.slice.injEq] at h1; omega
theorem prg_sat {W : World} {pa : Option Addr} {pc : Nat} {KK : List Knd} (hA : ∀ h, base W h → PrgOk h pa pc KK) {l r : List Assn} (s : Sel (base W) l r) : ∀ {h}, Sat l h → PrgOk h pa pc KK := fun {h} st => by
  obtain ⟨h1, h2, _, e, a, _⟩ := s.to st
  rw [e]; exact (hA _ a).imp fun b o hb => join_some hb
theorem prgOk_set {h : Hp} {pa a : Option Addr} {pc c i : Nat} {KK : List Knd} {k1 : Knd} (hb : PrgOk h pa pc KK) (o : RdH h a c (KK.set i k1).length ((KK.set i k1).flatMap kndC)) (hk : KndOk h k1) : PrgOk h a c (KK.set i k1) :=
  ⟨o, by have := hb.len; rw [List.length_set]; exact this, fun k hk' => (List.mem_or_eq_of_mem_set hk').elim (hb.kinds k) (· ▸ hk)⟩
theorem prgOk_add {h : Hp} {pa a : Option Addr} {pc c : Nat} {KK : List Knd} {k1 : Knd} (hb : PrgOk h pa pc KK) (o : RdH h a c (KK ++ [k1]).length ((KK ++ [k1]).flatMap kndC)) (hl : KK.length ≤ 8) (hk : KndOk h k1) : PrgOk h a c (KK ++ [k1]) :=
  ⟨o, by unfold ok63; rw [List.length_append]; simp only [List.length_cons, List.length_nil]; omega, fun k hk' => (List.mem_append.1 hk').elim (hb.kinds k) (fun e => List.mem_singleton.1 e ▸ hk)⟩
theorem kndOk_sts {h : Hp} {k : Knd} {a : Option Addr} {c : Nat} {S : List Sta} (hk : KndOk h k) (o : RdH h a c S.length (S.flatMap staC)) (hl : ok63 (S.length * 40)) (hs : ∀ s ∈ S, StaOk h s) : KndOk h { k with sa := a, sc := c, states := S } :=
  ⟨hk.name, hk.rdc, hk.lenc, hk.cases, o, hl, hs⟩
theorem staOk_rows {h : Hp} {s : Sta} {a : Option Addr} {c : Nat} {R : List Row} (hs : StaOk h s) (o : RdH h a c R.length (R.flatMap rowC)) (hl : ok63 (R.length * 56)) (hr : ∀ r ∈ R, RowOk h r) : StaOk h { s with ra := a, rc := c, rows := R } :=
  ⟨hs.name, o, hl, hr⟩
theorem SlR.from' {h : Hp} {a : Option Addr} {n c i sz : Nat} {xs : List Value} (s : SlR h (.slice a n c) n xs) (hx : xs.length = n * sz) (hi : i ≤ n) (hc : n ≤ c) : SlR h (.slice (if c = i then a else a.map (fun x : Addr => x.add (i * sz))) (n - i) (c - i)) (n - i) (xs.drop (i * sz)) := by
  rcases s with ⟨h1, h2, h3⟩ | ⟨b, off, spot, cap, h1, h2, h3⟩
  · simp only [Value.slice.injEq] at h1
    obtain ⟨rfl, _, rfl⟩ := h1
    obtain rfl : i = 0 := by omega
    exact .inl ⟨by simp [h3], by simp [h2], by omega⟩
  · simp only [Value.slice.injEq, true_and] at h1
    obtain ⟨rfl, rfl⟩ := h1
    by_cases e : c = i
    · rw [if_pos e]
      refine .inr ⟨b, off, spot, c - i, rfl, fun h0 => by omega, fun j x hx' => ?_⟩
      rw [List.drop_eq_nil_of_le (by rw [hx]; exact Nat.mul_le_mul_right _ (by omega))] at hx'; simp at hx'
    · rw [if_neg e]
      by_cases e0 : i * sz = 0
      · refine .inr ⟨b, off, spot, c - i, by simp [Addr.add, e0], fun h0 => h2 (by omega), fun j x hx' => h3 j x (by rw [List.getElem?_drop, e0, Nat.zero_add] at hx'; exact hx')⟩
      · rcases Nat.eq_zero_or_pos n with h0 | h0
        · subst h0; obtain rfl : i = 0 := by omega
          simp at e0
        · obtain rfl := h2 h0
          refine .inr ⟨b, off + i * sz, none, c - i, by simp [Addr.add, e0], fun _ => rfl, fun j x hx' => ?_⟩
          rw [List.getElem?_drop] at hx'
          obtain ⟨_, cs, e', fz, g1, g2⟩ := h3 _ x hx'
          exact ⟨rfl, cs, e', fz, g1, by rw [Nat.add_assoc]; exact g2⟩

set_option maxRecDepth 8000 in
set_option maxHeartbeats 4000000 in
theorem CheckTwice_bad {W : World} (hG : Gok W) (pa : Option Addr) (pc : Nat) (KK : List Knd) (hA : ∀ h, base W h → PrgOk h pa pc KK) (w : Nat) (hw : w ≤ 255) (lv : Nat) (hlv : lv ≤ 255) (c : Int) (ws : List Int) (hR : prgF KK = some (c, ws)) : FnS Tryd.prog 5 [.agg #[.slice pa KK.length pc], .int .u8 (w : Int), .int .u8 (lv : Int)] [base W] (fun u Bs => u = .bool true ∧ Bs = [base W]) := by
  refine fn_body Tryd.func5 rfl rfl rfl ?_
  intro W0 R
  simp only [List.zipIdx_cons, List.zipIdx_nil, List.map_cons, List.map_nil, Nat.zero_add, Nat.reduceAdd, List.cons_append, List.nil_append]
  refine g_seq ?_
  refine g_region ?_
  refine gl_n rfl (o_boxA rfl) ?_
  rintro _ _ ⟨b3, rfl, rfl⟩
  refine gl_v rfl (o_assign rfl) ?_
  refine gl_nil ?_
  refine ge_then ?_
  refine g_seq ?_
  refine g_seq ?_
  refine g_region ?_
  refine gl_c rfl (o_call rfl (alive_spec hG) (by repeat (first | exact .nil | (apply Part.cons; · (repeat (first | exact .head | apply Sel.tail)))))) ?_
  rintro _ R ⟨_, ⟨rfl, rfl⟩, rfl⟩
  try simp only [List.cons_append, List.nil_append]
  refine gl_v rfl (o_is (c := false) (by rfl) (o_not rfl)) ?_
  refine gl_nil ?_
  refine ge_then ?_
  refine g_cond_false rfl ?_
  refine g_skip ?_
  refine ge_then ?_
  refine g_seq ?_
  refine g_seq ?_
  refine g_region ?_
  first | refine gl_v rfl (o_loadSA rfl rfl rfl) ?_ | refine gl_v rfl (o_loadA rfl rfl rfl) ?_
  refine gl_c rfl (o_call rfl (ep_some (prog' pa pc KK (base W) hA) hR) (by repeat (first | exact .nil | (apply Part.cons; · (repeat (first | exact .head | apply Sel.tail)))))) ?_
  rintro _ R ⟨_, ⟨b, a, cp, rfl, rfl⟩, rfl⟩
  try simp only [List.cons_append, List.nil_append]
  refine gl_v rfl (o_neqIn rfl) ?_
  refine gl_nil ?_
  refine ge_then ?_
  refine g_cond_true rfl ?_
  refine g_seq ?_
  refine g_region ?_
  refine gl_v rfl (o_assign rfl) ?_
  refine gl_nil ?_
  refine ge_then ?_
  refine g_ret ?_
  refine ge_then_ret ?_
  refine ret1 (.inl rfl) rfl rfl [base W] (⟨rfl, rfl⟩) (To.sat (by repeat (first | exact .nil | exact .done .refl | (apply To.cons; · (repeat (first | exact .head | apply Sel.tail))) | exact .done (by repeat (first | exact .refl | apply Drop.skip)))))

set_option maxRecDepth 8000 in
set_option maxHeartbeats 4000000 in
theorem CheckTwice_0a {W : World} (hG : Gok W) (pa : Option Addr) (pc : Nat) (KK : List Knd) (hA : ∀ h, base W h → PrgOk h pa pc KK) (w : Nat) (hw : w ≤ 255) (lv : Nat) (hlv : lv ≤ 255) (hR : prgF KK = none) (hL : 1 ≤ KK.length ∧ KK.length ≤ 8) (i : Nat) (hi : w % KK.length = i) (k : Knd) (hk : KK[i]? = some k) (s : Sta) (hs : k.states[0]? = some s) (hv : lv % 3 = 0) (h8 : KK.length = 8) : FnS Tryd.prog 5 [.agg #[.slice pa KK.length pc], .int .u8 (w : Int), .int .u8 (lv : Int)] [base W] (fun u Bs => u = .bool true ∧ Bs = [base W]) := by
  refine fn_body Tryd.func5 rfl rfl rfl ?_
  intro W0 R
  simp only [List.zipIdx_cons, List.zipIdx_nil, List.map_cons, List.map_nil, Nat.zero_add, Nat.reduceAdd, List.cons_append, List.nil_append]
  obtain ⟨hb, hwb⟩ : ∃ h, base W h := ⟨hpOf W, fun _ _ => rfl⟩
  have hb0 := hA _ hwb
  have hKn := hb0.len; have hKc := hb0.rd.2
  haveI rK : RdA (.slice pa KK.length pc) (base W) KK.length (KK.flatMap kndC) := ⟨fun h => (hA _ h).rd.1⟩
  unfold ok63 at hKn
  have hiL := (List.getElem?_eq_some_iff.1 hk).1
  have hkm := List.mem_of_getElem? hk
  have hkO := hb0.kinds k hkm
  have hSn := hkO.lens; have hSc := hkO.rds.2; have hCn := hkO.lenc
  haveI rS : RdA (.slice k.sa k.states.length k.sc) (base W) k.states.length (k.states.flatMap staC) := ⟨fun h => ((hA _ h).kinds k hkm).rds.1⟩
  unfold ok63 at hSn hCn
  obtain ⟨⟨_, _, _, _, hC8, hS1, hS8⟩, hst⟩ := kind_facts hR hk
  have hR16 : s.rows.length ≤ 16 := by
    have := (staE_zero.1 ((staF_none hs).1 (hst 0 (by omega))).1).2.2
    simp at this; omega
  have hjL := (List.getElem?_eq_some_iff.1 hs).1
  have hsm := List.mem_of_getElem? hs
  have hsO := hkO.states s hsm
  have hRn := hsO.len
  haveI rR : RdA (.slice s.ra s.rows.length s.rc) (base W) s.rows.length (s.rows.flatMap rowC) := ⟨fun h => (((hA _ h).kinds k hkm).states s hsm).rd.1⟩
  unfold ok63 at hRn
  have hQ := (twice_kind hR hk).trans (if_pos h8)
  refine g_seq ?_
  refine g_region ?_
  refine gl_n rfl (o_boxA rfl) ?_
  rintro _ _ ⟨b3, rfl, rfl⟩
  refine gl_v rfl (o_assign rfl) ?_
  refine gl_nil ?_
  refine ge_then ?_
  refine g_seq ?_
  refine g_seq ?_
  refine g_region ?_
  refine gl_c rfl (o_call rfl (alive_spec hG) (by repeat (first | exact .nil | (apply Part.cons; · (repeat (first | exact .head | apply Sel.tail)))))) ?_
  rintro _ R ⟨_, ⟨rfl, rfl⟩, rfl⟩
  try simp only [List.cons_append, List.nil_append]
  refine gl_v rfl (o_is (c := false) (by rfl) (o_not rfl)) ?_
  refine gl_nil ?_
  refine ge_then ?_
  refine g_cond_false rfl ?_
  refine g_skip ?_
  refine ge_then ?_
  refine g_seq ?_
  refine g_seq ?_
  refine g_region ?_
  first | refine gl_v rfl (o_loadSA rfl rfl rfl) ?_ | refine gl_v rfl (o_loadA rfl rfl rfl) ?_
  refine gl_c rfl (o_call rfl (ep_none (prog' pa pc KK (base W) hA) hR) (by repeat (first | exact .nil | (apply Part.cons; · (repeat (first | exact .head | apply Sel.tail)))))) ?_
  rintro _ R ⟨_, ⟨rfl, rfl⟩, rfl⟩
  try simp only [List.cons_append, List.nil_append]
  refine gl_v rfl (o_neqnI rfl) ?_
  refine gl_nil ?_
  refine ge_then ?_
  refine g_cond_false rfl ?_
  refine g_skip ?_
  refine ge_then ?_
  refine g_seq ?_
  refine g_region ?_
  refine gl_n rfl (o_buildS0) ?_
  rintro _ _ ⟨b22, rfl, rfl⟩
  first | refine gl_v rfl (o_fldS rfl) ?_ | refine gl_v rfl (o_fld rfl) ?_
  first | refine gl_v rfl (o_load rfl rfl) ?_ | refine gl_v rfl (o_loadS rfl rfl) ?_ | refine gl_v rfl (o_loadC rfl) ?_
  refine gl_n rfl (o_appendS rfl rfl (by repeat (first | exact .head | apply Sel.tail)) rfl (flat_length kndC 5 kndC_len KK) (all_one (fun _ => rfl) KK) (by omega) (by unfold maxLen; omega)) ?_
  rintro _ _ ⟨a25, c25, rfl, rfl⟩
  simp only [Nat.zero_add, List.nil_append]
  refine gl_v rfl (o_build rfl rfl) ?_
  refine gl_n rfl (o_alloc) ?_
  rintro _ _ ⟨b7, rfl, rfl⟩
  first | refine gl_u (o_storeSA rfl rfl rfl rfl (by simp; omega) (by simp)) ?_ | refine gl_u (o_storeA rfl rfl rfl rfl rfl) ?_
  refine gl_nil ?_
  refine ge_then ?_
  refine g_seq ?_
  refine g_region ?_
  refine gl_v rfl (o_move rfl) ?_
  refine gl_v rfl (o_convR ((w : Nat) : Int) (wr_i64 (by omega)) rfl) ?_
  first | refine gl_v rfl (o_fldS rfl) ?_ | refine gl_v rfl (o_fld rfl) ?_
  first | refine gl_v rfl (o_load rfl rfl) ?_ | refine gl_v rfl (o_loadS rfl rfl) ?_ | refine gl_v rfl (o_loadC rfl) ?_
  refine gl_v rfl (o_lenL rfl) ?_
  refine gl_v rfl (o_remR ((i : Nat) : Int) (by rw [tmodn, hi]) rfl rfl (by omega)) ?_
  refine gl_v rfl (o_assign rfl) ?_
  refine gl_nil ?_
  refine ge_then ?_
  refine g_seq ?_
  refine g_region ?_
  first | refine gl_v rfl (o_fldS rfl) ?_ | refine gl_v rfl (o_fld rfl) ?_
  first | refine gl_v rfl (o_load rfl rfl) ?_ | refine gl_v rfl (o_loadS rfl rfl) ?_ | refine gl_v rfl (o_loadC rfl) ?_
  refine gl_v rfl (o_move rfl) ?_
  refine gl_v rfl (o_idxS rfl rfl hiL) ?_
  refine gl_v rfl (o_loadSA rfl (flat_take kndC 5 kndC_len hk) rfl) ?_
  refine gl_n rfl (o_alloc) ?_
  rintro _ _ ⟨b9, rfl, rfl⟩
  first | refine gl_u (o_storeSA rfl rfl rfl rfl (by simp; omega) (by simp)) ?_ | refine gl_u (o_storeA rfl rfl rfl rfl rfl) ?_
  refine gl_nil ?_
  refine ge_then ?_
  refine g_seq ?_
  refine g_seq ?_
  refine g_region ?_
  refine gl_v rfl (o_move rfl) ?_
  refine gl_v rfl (o_remR (0) (by rw [show (3 : Int) = ((3 : Nat) : Int) from rfl, tmodn, hv]; rfl) rfl rfl (by decide)) ?_
  refine gl_nil ?_
  refine ge_then ?_
  refine g_block ?_
  refine g_seq ?_
  refine g_region ?_
  refine gl_v rfl (o_is (c := true) (by rfl) (o_eql rfl rfl)) ?_
  refine gl_v rfl (o_assign rfl) ?_
  refine gl_nil ?_
  refine ge_then ?_
  refine g_cond_true rfl ?_
  refine g_seq ?_
  refine g_region ?_
  first | refine gl_v rfl (o_fldS rfl) ?_ | refine gl_v rfl (o_fld rfl) ?_
  first | refine gl_v rfl (o_load rfl rfl) ?_ | refine gl_v rfl (o_loadS rfl rfl) ?_ | refine gl_v rfl (o_loadC rfl) ?_
  refine gl_v rfl (o_loadA (vs := kndC k) rfl rfl rfl) ?_
  refine gl_n rfl (o_buildS1A (vs := kndC k) rfl rfl rfl rfl) ?_
  rintro _ _ ⟨b45, rfl, rfl⟩
  refine gl_n rfl (o_append rfl rfl (by repeat (first | exact .nil | (apply Part.cons; · (repeat (first | exact .head | apply Sel.tail))))) rfl rfl rfl (by omega) (by unfold maxLen; omega)) ?_
  rintro _ _ ⟨a46, c46, rfl, rfl⟩
  rw [flat_one]
  first | refine gl_v rfl (o_fldS rfl) ?_ | refine gl_v rfl (o_fld rfl) ?_
  first | refine gl_u (o_store rfl rfl rfl rfl) ?_ | refine gl_u (o_storeS rfl rfl rfl (by first | assumption | omega | simp)) ?_
  refine gl_nil ?_
  refine ge_then ?_
  refine g_seq ?_
  refine g_region ?_
  refine gl_v rfl (o_loadA (vs := [Value.slice a46 (KK.length + 1) c46]) rfl rfl rfl) ?_
  refine gl_c rfl (o_call rfl (ep_some (prog_l (pa := a46) (pc := c46) (n := KK.length + 1) (KK := KK ++ [k]) (by simp) [own (.slice a46 (KK.length + 1) c46) 41 5 (KK.length + 1) ((KK ++ [k]).flatMap kndC), base W] (fun h st => prgOk_add (prg_sat hA (by repeat (first | exact .head | apply Sel.tail)) st) (own_rdh (OwS.get (v := .slice a46 (KK.length + 1) c46) st) (by simp)) hL.2 ((prg_sat hA (by repeat (first | exact .head | apply Sel.tail)) st).kinds k hkm))) hQ) (by repeat (first | exact .nil | (apply Part.cons; · (repeat (first | exact .head | apply Sel.tail)))))) ?_
  rintro _ R ⟨_, ⟨b, a, cp, rfl, rfl⟩, rfl⟩
  try simp only [List.cons_append, List.nil_append]
  refine gl_v rfl (o_assign rfl) ?_
  refine gl_nil ?_
  refine ge_then ?_
  refine g_seq ?_
  refine g_region ?_
  refine gl_v rfl (o_move rfl) ?_
  refine gl_c rfl (o_call rfl (Where_bad hG b 40 a cp [] (by simp)) (by repeat (first | exact .nil | (apply Part.cons; · (repeat (first | exact .head | apply Sel.tail)))))) ?_
  rintro _ R ⟨_, ⟨a3, cp3, rfl, rfl⟩, rfl⟩
  try simp only [List.cons_append, List.nil_append]
  refine gl_v rfl (o_assign rfl) ?_
  refine gl_nil ?_
  refine ge_then ?_
  refine g_seq ?_
  refine g_draw [6, 16] [] [(0, .loc), (1, .loc), (2, .loc), (3, .loc), (4, .loc), (5, .loc), (6, .eff), (7, .loc), (8, .loc), (9, .loc), (10, .loc), (11, .loc), (12, .loc), (13, .loc), (14, .loc), (15, .loc), (16, .eff), (17, .loc), (18, .loc), (19, .loc), (20, .loc), (21, .loc), (22, .loc), (23, .loc), (24, .loc), (25, .loc), (26, .loc), (27, .loc), (28, .loc), (29, .loc), (30, .loc), (31, .loc), (32, .loc), (33, .loc)] [cel b3 24 [.slice pa KK.length pc], cel b7 24 [.slice a46 (KK.length + 1) c46], intsA a3 cp3 []] mixed (by kernel_rfl) ?_
  first | refine go_v rfl .none rfl (o_fldS rfl) ?_ | refine go_v rfl .none rfl (o_fld rfl) ?_
  first | refine go_v rfl .none rfl (o_load rfl rfl) ?_ | refine go_v rfl .none rfl (o_loadS rfl rfl) ?_ | refine go_v rfl .none rfl (o_loadC rfl) ?_
  refine go_v rfl .none rfl (o_lenL rfl) ?_
  refine go_v rfl .none rfl (o_is (c := true) (by first | rfl | exact decide_eq_true (by omega) | (simp only [List.length]; exact decide_eq_true (by omega))) (o_eql rfl rfl)) ?_
  refine go_v rfl .none rfl (o_move rfl) ?_
  refine go_v rfl (.yes rfl rfl rfl) rfl (o_move rfl) ?_
  refine go_c rfl (.yes rfl rfl rfl) rfl (o_call rfl (Code_bad hG b 0 40 a cp) (by repeat (first | exact .nil | (apply Part.cons; · (repeat (first | exact .head | apply Sel.tail)))))) ?_
  rintro _ R ⟨_, ⟨rfl, rfl⟩, rfl⟩
  try simp only [List.cons_append, List.nil_append]
  refine ⟨(fun hG => absurd hG (by decide)), ?_⟩
  refine go_v rfl (.yes rfl rfl rfl) rfl (o_is (c := true) (by first | rfl | exact decide_eq_true (by omega) | (simp only [List.length]; exact decide_eq_true (by omega))) (o_eql rfl rfl)) ?_
  refine go_v rfl .none rfl (o_pickT rfl rfl rfl) ?_
  refine go_v rfl .none rfl (o_move rfl) ?_
  refine go_v rfl (.yes rfl rfl rfl) rfl (o_move rfl) ?_
  refine go_v rfl (.yes rfl rfl rfl) rfl (o_lenL rfl) ?_
  refine go_v rfl (.yes rfl rfl rfl) rfl (o_is (c := true) (by first | rfl | exact decide_eq_true (by omega) | (simp only [List.length]; exact decide_eq_true (by omega))) (o_eql rfl rfl)) ?_
  refine go_v rfl .none rfl (o_pickT rfl rfl rfl) ?_
  refine go_v rfl .none rfl (o_move rfl) ?_
  refine go_skip rfl (.no rfl rfl rfl) rfl ?_
  refine go_skip rfl (.no rfl rfl rfl) rfl ?_
  refine go_skip rfl (.no rfl rfl rfl) rfl ?_
  refine go_skip rfl (.no rfl rfl rfl) rfl ?_
  refine go_skip rfl (.un rfl rfl) rfl ?_
  refine go_skip rfl (.un rfl rfl) rfl ?_
  refine go_skip rfl (.un rfl rfl) rfl ?_
  refine go_skip rfl (.no rfl rfl rfl) rfl ?_
  refine go_skip rfl (.no rfl rfl rfl) rfl ?_
  refine go_skip rfl (.un rfl rfl) rfl ?_
  refine go_skip rfl (.un rfl rfl) rfl ?_
  refine go_skip rfl (.un rfl rfl) rfl ?_
  refine go_skip rfl (.un rfl rfl) rfl ?_
  refine go_skip rfl (.un rfl rfl) rfl ?_
  refine go_skip rfl (.un rfl rfl) rfl ?_
  refine go_skip rfl (.un rfl rfl) rfl ?_
  refine go_skip rfl (.no rfl rfl rfl) rfl ?_
  refine go_v rfl .none rfl (o_pickT rfl rfl rfl) ?_
  refine go_v rfl .none rfl (o_assign rfl) ?_
  refine go_nil ?_
  refine ge_then ?_
  refine g_ret ?_
  refine ge_block_ret ?_
  refine ge_then_ret ?_
  refine ret1 (.inl rfl) rfl rfl [base W] (⟨rfl, rfl⟩) (To.sat (by repeat (first | exact .nil | exact .done .refl | (apply To.cons; · (repeat (first | exact .head | apply Sel.tail))) | exact .done (by repeat (first | exact .refl | apply Drop.skip)))))

set_option maxRecDepth 8000 in
set_option maxHeartbeats 4000000 in
theorem CheckTwice_0b {W : World} (hG : Gok W) (pa : Option Addr) (pc : Nat) (KK : List Knd) (hA : ∀ h, base W h → PrgOk h pa pc KK) (w : Nat) (hw : w ≤ 255) (lv : Nat) (hlv : lv ≤ 255) (hR : prgF KK = none) (hL : 1 ≤ KK.length ∧ KK.length ≤ 8) (i : Nat) (hi : w % KK.length = i) (k : Knd) (hk : KK[i]? = some k) (s : Sta) (hs : k.states[0]? = some s) (hv : lv % 3 = 0) (h8 : ¬ KK.length = 8) : FnS Tryd.prog 5 [.agg #[.slice pa KK.length pc], .int .u8 (w : Int), .int .u8 (lv : Int)] [base W] (fun u Bs => u = .bool true ∧ Bs = [base W]) := by
  refine fn_body Tryd.func5 rfl rfl rfl ?_
  intro W0 R
  simp only [List.zipIdx_cons, List.zipIdx_nil, List.map_cons, List.map_nil, Nat.zero_add, Nat.reduceAdd, List.cons_append, List.nil_append]
  obtain ⟨hb, hwb⟩ : ∃ h, base W h := ⟨hpOf W, fun _ _ => rfl⟩
  have hb0 := hA _ hwb
  have hKn := hb0.len; have hKc := hb0.rd.2
  haveI rK : RdA (.slice pa KK.length pc) (base W) KK.length (KK.flatMap kndC) := ⟨fun h => (hA _ h).rd.1⟩
  unfold ok63 at hKn
  have hiL := (List.getElem?_eq_some_iff.1 hk).1
  have hkm := List.mem_of_getElem? hk
  have hkO := hb0.kinds k hkm
  have hSn := hkO.lens; have hSc := hkO.rds.2; have hCn := hkO.lenc
  haveI rS : RdA (.slice k.sa k.states.length k.sc) (base W) k.states.length (k.states.flatMap staC) := ⟨fun h => ((hA _ h).kinds k hkm).rds.1⟩
  unfold ok63 at hSn hCn
  obtain ⟨⟨_, _, _, _, hC8, hS1, hS8⟩, hst⟩ := kind_facts hR hk
  have hR16 : s.rows.length ≤ 16 := by
    have := (staE_zero.1 ((staF_none hs).1 (hst 0 (by omega))).1).2.2
    simp at this; omega
  have hjL := (List.getElem?_eq_some_iff.1 hs).1
  have hsm := List.mem_of_getElem? hs
  have hsO := hkO.states s hsm
  have hRn := hsO.len
  haveI rR : RdA (.slice s.ra s.rows.length s.rc) (base W) s.rows.length (s.rows.flatMap rowC) := ⟨fun h => (((hA _ h).kinds k hkm).states s hsm).rd.1⟩
  unfold ok63 at hRn
  have hQ := (twice_kind hR hk).trans (if_neg h8)
  refine g_seq ?_
  refine g_region ?_
  refine gl_n rfl (o_boxA rfl) ?_
  rintro _ _ ⟨b3, rfl, rfl⟩
  refine gl_v rfl (o_assign rfl) ?_
  refine gl_nil ?_
  refine ge_then ?_
  refine g_seq ?_
  refine g_seq ?_
  refine g_region ?_
  refine gl_c rfl (o_call rfl (alive_spec hG) (by repeat (first | exact .nil | (apply Part.cons; · (repeat (first | exact .head | apply Sel.tail)))))) ?_
  rintro _ R ⟨_, ⟨rfl, rfl⟩, rfl⟩
  try simp only [List.cons_append, List.nil_append]
  refine gl_v rfl (o_is (c := false) (by rfl) (o_not rfl)) ?_
  refine gl_nil ?_
  refine ge_then ?_
  refine g_cond_false rfl ?_
  refine g_skip ?_
  refine ge_then ?_
  refine g_seq ?_
  refine g_seq ?_
  refine g_region ?_
  first | refine gl_v rfl (o_loadSA rfl rfl rfl) ?_ | refine gl_v rfl (o_loadA rfl rfl rfl) ?_
  refine gl_c rfl (o_call rfl (ep_none (prog' pa pc KK (base W) hA) hR) (by repeat (first | exact .nil | (apply Part.cons; · (repeat (first | exact .head | apply Sel.tail)))))) ?_
  rintro _ R ⟨_, ⟨rfl, rfl⟩, rfl⟩
  try simp only [List.cons_append, List.nil_append]
  refine gl_v rfl (o_neqnI rfl) ?_
  refine gl_nil ?_
  refine ge_then ?_
  refine g_cond_false rfl ?_
  refine g_skip ?_
  refine ge_then ?_
  refine g_seq ?_
  refine g_region ?_
  refine gl_n rfl (o_buildS0) ?_
  rintro _ _ ⟨b22, rfl, rfl⟩
  first | refine gl_v rfl (o_fldS rfl) ?_ | refine gl_v rfl (o_fld rfl) ?_
  first | refine gl_v rfl (o_load rfl rfl) ?_ | refine gl_v rfl (o_loadS rfl rfl) ?_ | refine gl_v rfl (o_loadC rfl) ?_
  refine gl_n rfl (o_appendS rfl rfl (by repeat (first | exact .head | apply Sel.tail)) rfl (flat_length kndC 5 kndC_len KK) (all_one (fun _ => rfl) KK) (by omega) (by unfold maxLen; omega)) ?_
  rintro _ _ ⟨a25, c25, rfl, rfl⟩
  simp only [Nat.zero_add, List.nil_append]
  refine gl_v rfl (o_build rfl rfl) ?_
  refine gl_n rfl (o_alloc) ?_
  rintro _ _ ⟨b7, rfl, rfl⟩
  first | refine gl_u (o_storeSA rfl rfl rfl rfl (by simp; omega) (by simp)) ?_ | refine gl_u (o_storeA rfl rfl rfl rfl rfl) ?_
  refine gl_nil ?_
  refine ge_then ?_
  refine g_seq ?_
  refine g_region ?_
  refine gl_v rfl (o_move rfl) ?_
  refine gl_v rfl (o_convR ((w : Nat) : Int) (wr_i64 (by omega)) rfl) ?_
  first | refine gl_v rfl (o_fldS rfl) ?_ | refine gl_v rfl (o_fld rfl) ?_
  first | refine gl_v rfl (o_load rfl rfl) ?_ | refine gl_v rfl (o_loadS rfl rfl) ?_ | refine gl_v rfl (o_loadC rfl) ?_
  refine gl_v rfl (o_lenL rfl) ?_
  refine gl_v rfl (o_remR ((i : Nat) : Int) (by rw [tmodn, hi]) rfl rfl (by omega)) ?_
  refine gl_v rfl (o_assign rfl) ?_
  refine gl_nil ?_
  refine ge_then ?_
  refine g_seq ?_
  refine g_region ?_
  first | refine gl_v rfl (o_fldS rfl) ?_ | refine gl_v rfl (o_fld rfl) ?_
  first | refine gl_v rfl (o_load rfl rfl) ?_ | refine gl_v rfl (o_loadS rfl rfl) ?_ | refine gl_v rfl (o_loadC rfl) ?_
  refine gl_v rfl (o_move rfl) ?_
  refine gl_v rfl (o_idxS rfl rfl hiL) ?_
  refine gl_v rfl (o_loadSA rfl (flat_take kndC 5 kndC_len hk) rfl) ?_
  refine gl_n rfl (o_alloc) ?_
  rintro _ _ ⟨b9, rfl, rfl⟩
  first | refine gl_u (o_storeSA rfl rfl rfl rfl (by simp; omega) (by simp)) ?_ | refine gl_u (o_storeA rfl rfl rfl rfl rfl) ?_
  refine gl_nil ?_
  refine ge_then ?_
  refine g_seq ?_
  refine g_seq ?_
  refine g_region ?_
  refine gl_v rfl (o_move rfl) ?_
  refine gl_v rfl (o_remR (0) (by rw [show (3 : Int) = ((3 : Nat) : Int) from rfl, tmodn, hv]; rfl) rfl rfl (by decide)) ?_
  refine gl_nil ?_
  refine ge_then ?_
  refine g_block ?_
  refine g_seq ?_
  refine g_region ?_
  refine gl_v rfl (o_is (c := true) (by rfl) (o_eql rfl rfl)) ?_
  refine gl_v rfl (o_assign rfl) ?_
  refine gl_nil ?_
  refine ge_then ?_
  refine g_cond_true rfl ?_
  refine g_seq ?_
  refine g_region ?_
  first | refine gl_v rfl (o_fldS rfl) ?_ | refine gl_v rfl (o_fld rfl) ?_
  first | refine gl_v rfl (o_load rfl rfl) ?_ | refine gl_v rfl (o_loadS rfl rfl) ?_ | refine gl_v rfl (o_loadC rfl) ?_
  refine gl_v rfl (o_loadA (vs := kndC k) rfl rfl rfl) ?_
  refine gl_n rfl (o_buildS1A (vs := kndC k) rfl rfl rfl rfl) ?_
  rintro _ _ ⟨b45, rfl, rfl⟩
  refine gl_n rfl (o_append rfl rfl (by repeat (first | exact .nil | (apply Part.cons; · (repeat (first | exact .head | apply Sel.tail))))) rfl rfl rfl (by omega) (by unfold maxLen; omega)) ?_
  rintro _ _ ⟨a46, c46, rfl, rfl⟩
  rw [flat_one]
  first | refine gl_v rfl (o_fldS rfl) ?_ | refine gl_v rfl (o_fld rfl) ?_
  first | refine gl_u (o_store rfl rfl rfl rfl) ?_ | refine gl_u (o_storeS rfl rfl rfl (by first | assumption | omega | simp)) ?_
  refine gl_nil ?_
  refine ge_then ?_
  refine g_seq ?_
  refine g_region ?_
  refine gl_v rfl (o_loadA (vs := [Value.slice a46 (KK.length + 1) c46]) rfl rfl rfl) ?_
  refine gl_c rfl (o_call rfl (ep_some (prog_l (pa := a46) (pc := c46) (n := KK.length + 1) (KK := KK ++ [k]) (by simp) [own (.slice a46 (KK.length + 1) c46) 41 5 (KK.length + 1) ((KK ++ [k]).flatMap kndC), base W] (fun h st => prgOk_add (prg_sat hA (by repeat (first | exact .head | apply Sel.tail)) st) (own_rdh (OwS.get (v := .slice a46 (KK.length + 1) c46) st) (by simp)) hL.2 ((prg_sat hA (by repeat (first | exact .head | apply Sel.tail)) st).kinds k hkm))) hQ) (by repeat (first | exact .nil | (apply Part.cons; · (repeat (first | exact .head | apply Sel.tail)))))) ?_
  rintro _ R ⟨_, ⟨b, a, cp, rfl, rfl⟩, rfl⟩
  try simp only [List.cons_append, List.nil_append]
  refine gl_v rfl (o_assign rfl) ?_
  refine gl_nil ?_
  refine ge_then ?_
  refine g_seq ?_
  refine g_region ?_
  refine gl_v rfl (o_move rfl) ?_
  refine gl_c rfl (o_call rfl (Where_bad hG b 41 a cp [((KK.length + 1 : Nat) : Int)] (by simp)) (by repeat (first | exact .nil | (apply Part.cons; · (repeat (first | exact .head | apply Sel.tail)))))) ?_
  rintro _ R ⟨_, ⟨a3, cp3, rfl, rfl⟩, rfl⟩
  try simp only [List.cons_append, List.nil_append]
  refine gl_v rfl (o_assign rfl) ?_
  refine gl_nil ?_
  refine ge_then ?_
  refine g_seq ?_
  refine g_draw [6, 16] [] [(0, .loc), (1, .loc), (2, .loc), (3, .loc), (4, .loc), (5, .loc), (6, .eff), (7, .loc), (8, .loc), (9, .loc), (10, .loc), (11, .loc), (12, .loc), (13, .loc), (14, .loc), (15, .loc), (16, .eff), (17, .loc), (18, .loc), (19, .loc), (20, .loc), (21, .loc), (22, .loc), (23, .loc), (24, .loc), (25, .loc), (26, .loc), (27, .loc), (28, .loc), (29, .loc), (30, .loc), (31, .loc), (32, .loc), (33, .loc)] [cel b3 24 [.slice pa KK.length pc], cel b7 24 [.slice a46 (KK.length + 1) c46], intsA a3 cp3 [((KK.length + 1 : Nat) : Int)]] mixed (by kernel_rfl) ?_
  first | refine go_v rfl .none rfl (o_fldS rfl) ?_ | refine go_v rfl .none rfl (o_fld rfl) ?_
  first | refine go_v rfl .none rfl (o_load rfl rfl) ?_ | refine go_v rfl .none rfl (o_loadS rfl rfl) ?_ | refine go_v rfl .none rfl (o_loadC rfl) ?_
  refine go_v rfl .none rfl (o_lenL rfl) ?_
  refine go_v rfl .none rfl (o_is (c := false) (by first | rfl | exact decide_eq_false (by omega) | (simp only [List.length]; exact decide_eq_false (by omega))) (o_eql rfl rfl)) ?_
  refine go_v rfl .none rfl (o_move rfl) ?_
  refine go_skip rfl (.no rfl rfl rfl) rfl ?_
  refine go_skip rfl (.no rfl rfl rfl) rfl ?_
  refine go_skip rfl (.no rfl rfl rfl) rfl ?_
  refine go_v rfl .none rfl (o_pickF rfl rfl rfl) ?_
  refine go_v rfl .none rfl (o_move rfl) ?_
  refine go_skip rfl (.no rfl rfl rfl) rfl ?_
  refine go_skip rfl (.no rfl rfl rfl) rfl ?_
  refine go_skip rfl (.no rfl rfl rfl) rfl ?_
  refine go_v rfl .none rfl (o_pickF rfl rfl rfl) ?_
  refine go_v rfl .none rfl (o_move rfl) ?_
  refine go_v rfl (.yes rfl rfl rfl) rfl (o_move rfl) ?_
  refine go_c rfl (.yes rfl rfl rfl) rfl (o_call rfl (Code_bad hG b 1 41 a cp) (by repeat (first | exact .nil | (apply Part.cons; · (repeat (first | exact .head | apply Sel.tail)))))) ?_
  rintro _ R ⟨_, ⟨rfl, rfl⟩, rfl⟩
  try simp only [List.cons_append, List.nil_append]
  refine ⟨(fun hG => absurd hG (by decide)), ?_⟩
  refine go_v rfl (.yes rfl rfl rfl) rfl (o_is (c := true) (by first | rfl | exact decide_eq_true (by omega) | (simp only [List.length]; exact decide_eq_true (by omega))) (o_eql rfl rfl)) ?_
  refine go_v rfl (.yes rfl rfl rfl) rfl (o_move rfl) ?_
  refine go_v rfl (.yes rfl rfl rfl) rfl (o_move rfl) ?_
  refine go_v rfl (.yes rfl rfl rfl) rfl (o_lenL rfl) ?_
  refine go_v rfl (.yes rfl rfl rfl) rfl (o_is (c := true) (by first | rfl | exact decide_eq_true (by omega) | (simp only [List.length]; exact decide_eq_true (by omega))) (o_eql rfl rfl)) ?_
  refine go_v rfl (.yes rfl rfl rfl) rfl (o_pickT rfl rfl rfl) ?_
  refine go_v rfl (.yes rfl rfl rfl) rfl (o_move rfl) ?_
  refine go_v rfl (.yes rfl rfl rfl) rfl (o_move rfl) ?_
  refine go_v rfl (.yes rfl rfl rfl) rfl (o_idxS rfl rfl (by simp)) ?_
  refine go_v rfl (.yes rfl rfl rfl) rfl (o_loadS rfl rfl) ?_
  first | refine go_v rfl (.yes rfl rfl rfl) rfl (o_fldS rfl) ?_ | refine go_v rfl (.yes rfl rfl rfl) rfl (o_fld rfl) ?_
  first | refine go_v rfl (.yes rfl rfl rfl) rfl (o_load rfl rfl) ?_ | refine go_v rfl (.yes rfl rfl rfl) rfl (o_loadS rfl rfl) ?_ | refine go_v rfl (.yes rfl rfl rfl) rfl (o_loadC rfl) ?_
  refine go_v rfl (.yes rfl rfl rfl) rfl (o_lenL rfl) ?_
  refine go_v rfl (.yes rfl rfl rfl) rfl (o_is (c := true) (by first | rfl | exact decide_eq_true (by omega) | (simp only [List.length]; exact decide_eq_true (by omega))) (o_eql rfl rfl)) ?_
  refine go_v rfl (.yes rfl rfl rfl) rfl (o_pickT rfl rfl rfl) ?_
  refine go_v rfl .none rfl (o_pickF rfl rfl rfl) ?_
  refine go_v rfl .none rfl (o_assign rfl) ?_
  refine go_nil ?_
  refine ge_then ?_
  refine g_ret ?_
  refine ge_block_ret ?_
  refine ge_then_ret ?_
  refine ret1 (.inl rfl) rfl rfl [base W] (⟨rfl, rfl⟩) (To.sat (by repeat (first | exact .nil | exact .done .refl | (apply To.cons; · (repeat (first | exact .head | apply Sel.tail))) | exact .done (by repeat (first | exact .refl | apply Drop.skip)))))

set_option maxRecDepth 8000 in
set_option maxHeartbeats 4000000 in
theorem CheckTwice_1a {W : World} (hG : Gok W) (pa : Option Addr) (pc : Nat) (KK : List Knd) (hA : ∀ h, base W h → PrgOk h pa pc KK) (w : Nat) (hw : w ≤ 255) (lv : Nat) (hlv : lv ≤ 255) (hR : prgF KK = none) (hL : 1 ≤ KK.length ∧ KK.length ≤ 8) (i : Nat) (hi : w % KK.length = i) (k : Knd) (hk : KK[i]? = some k) (s : Sta) (hs : k.states[0]? = some s) (hv : lv % 3 = 1) (h8 : k.states.length = 8) : FnS Tryd.prog 5 [.agg #[.slice pa KK.length pc], .int .u8 (w : Int), .int .u8 (lv : Int)] [base W] (fun u Bs => u = .bool true ∧ Bs = [base W]) := by
  refine fn_body Tryd.func5 rfl rfl rfl ?_
  intro W0 R
  simp only [List.zipIdx_cons, List.zipIdx_nil, List.map_cons, List.map_nil, Nat.zero_add, Nat.reduceAdd, List.cons_append, List.nil_append]
  obtain ⟨hb, hwb⟩ : ∃ h, base W h := ⟨hpOf W, fun _ _ => rfl⟩
  have hb0 := hA _ hwb
  have hKn := hb0.len; have hKc := hb0.rd.2
  haveI rK : RdA (.slice pa KK.length pc) (base W) KK.length (KK.flatMap kndC) := ⟨fun h => (hA _ h).rd.1⟩
  unfold ok63 at hKn
  have hiL := (List.getElem?_eq_some_iff.1 hk).1
  have hkm := List.mem_of_getElem? hk
  have hkO := hb0.kinds k hkm
  have hSn := hkO.lens; have hSc := hkO.rds.2; have hCn := hkO.lenc
  haveI rS : RdA (.slice k.sa k.states.length k.sc) (base W) k.states.length (k.states.flatMap staC) := ⟨fun h => ((hA _ h).kinds k hkm).rds.1⟩
  unfold ok63 at hSn hCn
  obtain ⟨⟨_, _, _, _, hC8, hS1, hS8⟩, hst⟩ := kind_facts hR hk
  have hR16 : s.rows.length ≤ 16 := by
    have := (staE_zero.1 ((staF_none hs).1 (hst 0 (by omega))).1).2.2
    simp at this; omega
  have hjL := (List.getElem?_eq_some_iff.1 hs).1
  have hsm := List.mem_of_getElem? hs
  have hsO := hkO.states s hsm
  have hRn := hsO.len
  haveI rR : RdA (.slice s.ra s.rows.length s.rc) (base W) s.rows.length (s.rows.flatMap rowC) := ⟨fun h => (((hA _ h).kinds k hkm).states s hsm).rd.1⟩
  unfold ok63 at hRn
  
  refine g_seq ?_
  refine g_region ?_
  refine gl_n rfl (o_boxA rfl) ?_
  rintro _ _ ⟨b3, rfl, rfl⟩
  refine gl_v rfl (o_assign rfl) ?_
  refine gl_nil ?_
  refine ge_then ?_
  refine g_seq ?_
  refine g_seq ?_
  refine g_region ?_
  refine gl_c rfl (o_call rfl (alive_spec hG) (by repeat (first | exact .nil | (apply Part.cons; · (repeat (first | exact .head | apply Sel.tail)))))) ?_
  rintro _ R ⟨_, ⟨rfl, rfl⟩, rfl⟩
  try simp only [List.cons_append, List.nil_append]
  refine gl_v rfl (o_is (c := false) (by rfl) (o_not rfl)) ?_
  refine gl_nil ?_
  refine ge_then ?_
  refine g_cond_false rfl ?_
  refine g_skip ?_
  refine ge_then ?_
  refine g_seq ?_
  refine g_seq ?_
  refine g_region ?_
  first | refine gl_v rfl (o_loadSA rfl rfl rfl) ?_ | refine gl_v rfl (o_loadA rfl rfl rfl) ?_
  refine gl_c rfl (o_call rfl (ep_none (prog' pa pc KK (base W) hA) hR) (by repeat (first | exact .nil | (apply Part.cons; · (repeat (first | exact .head | apply Sel.tail)))))) ?_
  rintro _ R ⟨_, ⟨rfl, rfl⟩, rfl⟩
  try simp only [List.cons_append, List.nil_append]
  refine gl_v rfl (o_neqnI rfl) ?_
  refine gl_nil ?_
  refine ge_then ?_
  refine g_cond_false rfl ?_
  refine g_skip ?_
  refine ge_then ?_
  refine g_seq ?_
  refine g_region ?_
  refine gl_n rfl (o_buildS0) ?_
  rintro _ _ ⟨b22, rfl, rfl⟩
  first | refine gl_v rfl (o_fldS rfl) ?_ | refine gl_v rfl (o_fld rfl) ?_
  first | refine gl_v rfl (o_load rfl rfl) ?_ | refine gl_v rfl (o_loadS rfl rfl) ?_ | refine gl_v rfl (o_loadC rfl) ?_
  refine gl_n rfl (o_appendS rfl rfl (by repeat (first | exact .head | apply Sel.tail)) rfl (flat_length kndC 5 kndC_len KK) (all_one (fun _ => rfl) KK) (by omega) (by unfold maxLen; omega)) ?_
  rintro _ _ ⟨a25, c25, rfl, rfl⟩
  simp only [Nat.zero_add, List.nil_append]
  refine gl_v rfl (o_build rfl rfl) ?_
  refine gl_n rfl (o_alloc) ?_
  rintro _ _ ⟨b7, rfl, rfl⟩
  first | refine gl_u (o_storeSA rfl rfl rfl rfl (by simp; omega) (by simp)) ?_ | refine gl_u (o_storeA rfl rfl rfl rfl rfl) ?_
  refine gl_nil ?_
  refine ge_then ?_
  refine g_seq ?_
  refine g_region ?_
  refine gl_v rfl (o_move rfl) ?_
  refine gl_v rfl (o_convR ((w : Nat) : Int) (wr_i64 (by omega)) rfl) ?_
  first | refine gl_v rfl (o_fldS rfl) ?_ | refine gl_v rfl (o_fld rfl) ?_
  first | refine gl_v rfl (o_load rfl rfl) ?_ | refine gl_v rfl (o_loadS rfl rfl) ?_ | refine gl_v rfl (o_loadC rfl) ?_
  refine gl_v rfl (o_lenL rfl) ?_
  refine gl_v rfl (o_remR ((i : Nat) : Int) (by rw [tmodn, hi]) rfl rfl (by omega)) ?_
  refine gl_v rfl (o_assign rfl) ?_
  refine gl_nil ?_
  refine ge_then ?_
  refine g_seq ?_
  refine g_region ?_
  first | refine gl_v rfl (o_fldS rfl) ?_ | refine gl_v rfl (o_fld rfl) ?_
  first | refine gl_v rfl (o_load rfl rfl) ?_ | refine gl_v rfl (o_loadS rfl rfl) ?_ | refine gl_v rfl (o_loadC rfl) ?_
  refine gl_v rfl (o_move rfl) ?_
  refine gl_v rfl (o_idxS rfl rfl hiL) ?_
  refine gl_v rfl (o_loadSA rfl (flat_take kndC 5 kndC_len hk) rfl) ?_
  refine gl_n rfl (o_alloc) ?_
  rintro _ _ ⟨b9, rfl, rfl⟩
  first | refine gl_u (o_storeSA rfl rfl rfl rfl (by simp; omega) (by simp)) ?_ | refine gl_u (o_storeA rfl rfl rfl rfl rfl) ?_
  refine gl_nil ?_
  refine ge_then ?_
  refine g_seq ?_
  refine g_seq ?_
  refine g_region ?_
  refine gl_v rfl (o_move rfl) ?_
  refine gl_v rfl (o_remR (1) (by rw [show (3 : Int) = ((3 : Nat) : Int) from rfl, tmodn, hv]; rfl) rfl rfl (by decide)) ?_
  refine gl_nil ?_
  refine ge_then ?_
  refine g_block ?_
  refine g_seq ?_
  refine g_region ?_
  refine gl_v rfl (o_is (c := false) (by rfl) (o_eql rfl rfl)) ?_
  refine gl_v rfl (o_assign rfl) ?_
  refine gl_nil ?_
  refine ge_then ?_
  refine g_cond_false rfl ?_
  refine g_seq ?_
  refine g_region ?_
  refine gl_v rfl (o_is (c := true) (by rfl) (o_eql rfl rfl)) ?_
  refine gl_v rfl (o_assign rfl) ?_
  refine gl_nil ?_
  refine ge_then ?_
  refine g_cond_true rfl ?_
  refine g_seq ?_
  refine g_treeM [0, 3, 8, 9, 11] [0, 3, 8] (.stab 1 (.stab 2 (.stab 4 (.stab 5 (.stab 6 (.stab 7 (.eff 0 (.eff 3 (.eff 8 (.eff 9 (.loc 10 (.eff 11 .nil .nil)) .nil) .nil) (.eff 8 (.eff 3 (.eff 9 (.loc 10 (.eff 11 .nil .nil)) .nil) .nil) .nil)) (.eff 8 (.eff 0 (.eff 3 (.eff 9 (.loc 10 (.eff 11 .nil .nil)) .nil) .nil) .nil) .nil)))))))) [cel b9 41 (kndC k), base W] mixed (by kernel_rfl) ?_
  first | refine gt_vs rfl .none rfl (o_fldS rfl) (To.sat (by repeat (first | exact .nil | exact .done .refl | (apply To.cons; · (repeat (first | exact .head | apply Sel.tail))) | exact .done (by repeat (first | exact .refl | apply Drop.skip))))) ?_ | refine gt_vs rfl .none rfl (o_fld rfl) (To.sat (by repeat (first | exact .nil | exact .done .refl | (apply To.cons; · (repeat (first | exact .head | apply Sel.tail))) | exact .done (by repeat (first | exact .refl | apply Drop.skip))))) ?_
  first | refine gt_vs rfl .none rfl (o_load rfl rfl) (To.sat (by repeat (first | exact .nil | exact .done .refl | (apply To.cons; · (repeat (first | exact .head | apply Sel.tail))) | exact .done (by repeat (first | exact .refl | apply Drop.skip))))) ?_ | refine gt_vs rfl .none rfl (o_loadS rfl rfl) (To.sat (by repeat (first | exact .nil | exact .done .refl | (apply To.cons; · (repeat (first | exact .head | apply Sel.tail))) | exact .done (by repeat (first | exact .refl | apply Drop.skip))))) ?_ | refine gt_vs rfl .none rfl (o_loadC rfl) (To.sat (by repeat (first | exact .nil | exact .done .refl | (apply To.cons; · (repeat (first | exact .head | apply Sel.tail))) | exact .done (by repeat (first | exact .refl | apply Drop.skip))))) ?_
  first | refine gt_vs rfl .none rfl (o_fldS rfl) (To.sat (by repeat (first | exact .nil | exact .done .refl | (apply To.cons; · (repeat (first | exact .head | apply Sel.tail))) | exact .done (by repeat (first | exact .refl | apply Drop.skip))))) ?_ | refine gt_vs rfl .none rfl (o_fld rfl) (To.sat (by repeat (first | exact .nil | exact .done .refl | (apply To.cons; · (repeat (first | exact .head | apply Sel.tail))) | exact .done (by repeat (first | exact .refl | apply Drop.skip))))) ?_
  first | refine gt_vs rfl .none rfl (o_load rfl rfl) (To.sat (by repeat (first | exact .nil | exact .done .refl | (apply To.cons; · (repeat (first | exact .head | apply Sel.tail))) | exact .done (by repeat (first | exact .refl | apply Drop.skip))))) ?_ | refine gt_vs rfl .none rfl (o_loadS rfl rfl) (To.sat (by repeat (first | exact .nil | exact .done .refl | (apply To.cons; · (repeat (first | exact .head | apply Sel.tail))) | exact .done (by repeat (first | exact .refl | apply Drop.skip))))) ?_ | refine gt_vs rfl .none rfl (o_loadC rfl) (To.sat (by repeat (first | exact .nil | exact .done .refl | (apply To.cons; · (repeat (first | exact .head | apply Sel.tail))) | exact .done (by repeat (first | exact .refl | apply Drop.skip))))) ?_
  refine gt_vs rfl .none rfl (o_idxS rfl rfl (show 0 < k.states.length by omega)) (To.sat (by repeat (first | exact .nil | exact .done .refl | (apply To.cons; · (repeat (first | exact .head | apply Sel.tail))) | exact .done (by repeat (first | exact .refl | apply Drop.skip))))) ?_
  refine gt_vs rfl .none rfl (o_loadSA (vs := staC s) rfl (flat_take staC 2 staC_len hs) rfl) (To.sat (by repeat (first | exact .nil | exact .done .refl | (apply To.cons; · (repeat (first | exact .head | apply Sel.tail))) | exact .done (by repeat (first | exact .refl | apply Drop.skip))))) ?_
  refine gt_alts ?_ ?_
  ·
    refine gt_n rfl .none rfl (o_buildS0) ?_
    rintro _ _ ⟨b87, rfl, rfl⟩
    refine ⟨(fun _ => (To.sat (by repeat (first | exact .nil | exact .done .refl | (apply To.cons; · (repeat (first | exact .head | apply Sel.tail))) | exact .done (by repeat (first | exact .refl | apply Drop.skip)))))), ?_⟩
    refine gt_alts ?_ ?_
    ·
      refine gt_n rfl .none rfl (o_appendS rfl rfl (by repeat (first | exact .head | apply Sel.tail)) rfl (flat_length staC 2 staC_len k.states) (all_one (fun _ => rfl) k.states) (by omega) (by unfold maxLen; omega)) ?_
      rintro _ _ ⟨a90, c90, rfl, rfl⟩
      simp only [Nat.zero_add, List.nil_append]
      refine ⟨(fun _ => (To.sat (by repeat (first | exact .nil | exact .done .refl | (apply To.cons; · (repeat (first | exact .head | apply Sel.tail))) | exact .done (by repeat (first | exact .refl | apply Drop.skip)))))), ?_⟩
      refine gt_n rfl .none rfl (o_buildS1A (vs := staC s) rfl rfl rfl rfl) ?_
      rintro _ _ ⟨b95, rfl, rfl⟩
      refine ⟨(fun _ => (To.sat (by repeat (first | exact .nil | exact .done .refl | (apply To.cons; · (repeat (first | exact .head | apply Sel.tail))) | exact .done (by repeat (first | exact .refl | apply Drop.skip)))))), ?_⟩
      refine gt_n rfl .none rfl (o_append rfl rfl (by repeat (first | exact .nil | (apply Part.cons; · (repeat (first | exact .head | apply Sel.tail))))) rfl rfl rfl (by omega) (by unfold maxLen; omega)) ?_
      rintro _ _ ⟨a96, c96, rfl, rfl⟩
      rw [flat_one]
      refine ⟨(fun hG => absurd hG (by decide)), ?_⟩
      first | refine gt_v rfl .none rfl (o_fldS rfl) ?_ | refine gt_v rfl .none rfl (o_fld rfl) ?_
      first | refine gt_u rfl .none (o_store rfl rfl rfl rfl) (fun hG => absurd hG (by decide)) ?_ | refine gt_u rfl .none (o_storeS rfl rfl rfl (by first | assumption | omega | simp)) (fun hG => absurd hG (by decide)) ?_
      refine gt_nil ?_
      refine ge_then ?_
      refine g_seq ?_
      refine g_region ?_
      first | refine gl_v rfl (o_fldS rfl) ?_ | refine gl_v rfl (o_fld rfl) ?_
      first | refine gl_v rfl (o_load rfl rfl) ?_ | refine gl_v rfl (o_loadS rfl rfl) ?_ | refine gl_v rfl (o_loadC rfl) ?_
      refine gl_v rfl (o_move rfl) ?_
      refine gl_v rfl (o_loadA (vs := [sv k.name, iv k.limit, iv k.within, Value.slice k.ca k.cases.length k.cc, Value.slice a96 (k.states.length + 1) c96]) rfl rfl rfl) ?_
      refine gl_v rfl (o_idxS rfl rfl hiL) ?_
      refine gl_u (o_storeSA (vs := [sv k.name, iv k.limit, iv k.within, Value.slice k.ca k.cases.length k.cc, Value.slice a96 (k.states.length + 1) c96]) rfl rfl rfl rfl (by rw [flat_length kndC 5 kndC_len]; simp only [List.length]; omega) (Nat.succ_pos _)) ?_
      rw [show [sv k.name, iv k.limit, iv k.within, Value.slice k.ca k.cases.length k.cc, Value.slice a96 (k.states.length + 1) c96] = kndC { k with sa := a96, sc := c96, states := k.states ++ [s] } by simp [kndC], splice_flat kndC 5 kndC_len _ KK i hiL]
      have hQ := (twice_state hR hk hs a96 c96).trans (if_pos h8)
      refine gl_nil ?_
      refine ge_then ?_
      refine g_seq ?_
      refine g_region ?_
      refine gl_v rfl (o_loadA (vs := [Value.slice a25 KK.length c25]) rfl rfl rfl) ?_
      refine gl_c rfl (o_call rfl (ep_some (prog_l (pa := a25) (pc := c25) (n := KK.length) (KK := KK.set i { k with sa := a96, sc := c96, states := k.states ++ [s] }) (by rw [List.length_set]) [own (.slice a25 KK.length c25) 41 5 KK.length ((KK.set i { k with sa := a96, sc := c96, states := k.states ++ [s] }).flatMap kndC), own (.slice a96 (k.states.length + 1) c96) 44 2 (k.states.length + 1) ((k.states ++ [s]).flatMap staC), base W] (fun h st => prgOk_set (prg_sat hA (by repeat (first | exact .head | apply Sel.tail)) st) (own_rdh (OwS.get (v := .slice a25 KK.length c25) st) (by rw [List.length_set])) (kndOk_sts ((prg_sat hA (by repeat (first | exact .head | apply Sel.tail)) st).kinds k hkm) (own_rdh (OwS.get (v := .slice a96 (k.states.length + 1) c96) st) (by simp)) (by unfold ok63; simp; omega) (fun s' hs' => (List.mem_append.1 hs').elim (((prg_sat hA (by repeat (first | exact .head | apply Sel.tail)) st).kinds k hkm).states s') (fun e => List.mem_singleton.1 e ▸ ((prg_sat hA (by repeat (first | exact .head | apply Sel.tail)) st).kinds k hkm).states s hsm))))) hQ) (by repeat (first | exact .nil | (apply Part.cons; · (repeat (first | exact .head | apply Sel.tail)))))) ?_
      rintro _ R ⟨_, ⟨b, a, cp, rfl, rfl⟩, rfl⟩
      try simp only [List.cons_append, List.nil_append]
      refine gl_v rfl (o_assign rfl) ?_
      refine gl_nil ?_
      refine ge_then ?_
      refine g_seq ?_
      refine g_region ?_
      refine gl_v rfl (o_move rfl) ?_
      refine gl_c rfl (o_call rfl (Where_bad hG b 40 a cp [((i + 1 : Nat) : Int)] (by simp)) (by repeat (first | exact .nil | (apply Part.cons; · (repeat (first | exact .head | apply Sel.tail)))))) ?_
      rintro _ R ⟨_, ⟨a3, cp3, rfl, rfl⟩, rfl⟩
      try simp only [List.cons_append, List.nil_append]
      refine gl_v rfl (o_assign rfl) ?_
      refine gl_nil ?_
      refine ge_then ?_
      refine g_seq ?_
      refine g_draw [6, 16] [] [(0, .loc), (1, .loc), (2, .loc), (3, .loc), (4, .loc), (5, .loc), (6, .eff), (7, .loc), (8, .loc), (9, .loc), (10, .loc), (11, .loc), (12, .loc), (13, .loc), (14, .loc), (15, .loc), (16, .eff), (17, .loc), (18, .loc), (19, .loc), (20, .loc), (21, .loc), (22, .loc), (23, .loc), (24, .loc), (25, .loc), (26, .loc), (27, .loc), (28, .loc), (29, .loc), (30, .loc), (31, .loc), (32, .loc), (33, .loc), (34, .loc), (35, .loc), (36, .loc), (37, .loc), (38, .loc), (39, .loc), (40, .loc), (41, .loc)] [cel b9 41 [sv k.name, iv k.limit, iv k.within, Value.slice k.ca k.cases.length k.cc, Value.slice a96 (k.states.length + 1) c96], intsA a3 cp3 [((i + 1 : Nat) : Int)]] mixed (by kernel_rfl) ?_
      first | refine go_v rfl .none rfl (o_fldS rfl) ?_ | refine go_v rfl .none rfl (o_fld rfl) ?_
      first | refine go_v rfl .none rfl (o_load rfl rfl) ?_ | refine go_v rfl .none rfl (o_loadS rfl rfl) ?_ | refine go_v rfl .none rfl (o_loadC rfl) ?_
      refine go_v rfl .none rfl (o_lenL rfl) ?_
      refine go_v rfl .none rfl (o_is (c := true) (by first | rfl | exact decide_eq_true (by omega) | (simp only [List.length]; exact decide_eq_true (by omega))) (o_eql rfl rfl)) ?_
      refine go_v rfl .none rfl (o_move rfl) ?_
      refine go_v rfl (.yes rfl rfl rfl) rfl (o_move rfl) ?_
      refine go_c rfl (.yes rfl rfl rfl) rfl (o_call rfl (Code_bad hG b 1 40 a cp) (by repeat (first | exact .nil | (apply Part.cons; · (repeat (first | exact .head | apply Sel.tail)))))) ?_
      rintro _ R ⟨_, ⟨rfl, rfl⟩, rfl⟩
      try simp only [List.cons_append, List.nil_append]
      refine ⟨(fun hG => absurd hG (by decide)), ?_⟩
      refine go_v rfl (.yes rfl rfl rfl) rfl (o_is (c := true) (by first | rfl | exact decide_eq_true (by omega) | (simp only [List.length]; exact decide_eq_true (by omega))) (o_eql rfl rfl)) ?_
      refine go_v rfl .none rfl (o_pickT rfl rfl rfl) ?_
      refine go_v rfl .none rfl (o_move rfl) ?_
      refine go_v rfl (.yes rfl rfl rfl) rfl (o_move rfl) ?_
      refine go_v rfl (.yes rfl rfl rfl) rfl (o_lenL rfl) ?_
      refine go_v rfl (.yes rfl rfl rfl) rfl (o_is (c := true) (by first | rfl | exact decide_eq_true (by omega) | (simp only [List.length]; exact decide_eq_true (by omega))) (o_eql rfl rfl)) ?_
      refine go_v rfl .none rfl (o_pickT rfl rfl rfl) ?_
      refine go_v rfl .none rfl (o_move rfl) ?_
      refine go_skip rfl (.no rfl rfl rfl) rfl ?_
      refine go_skip rfl (.no rfl rfl rfl) rfl ?_
      refine go_skip rfl (.no rfl rfl rfl) rfl ?_
      refine go_skip rfl (.no rfl rfl rfl) rfl ?_
      refine go_skip rfl (.un rfl rfl) rfl ?_
      refine go_skip rfl (.un rfl rfl) rfl ?_
      refine go_skip rfl (.un rfl rfl) rfl ?_
      refine go_skip rfl (.no rfl rfl rfl) rfl ?_
      refine go_skip rfl (.no rfl rfl rfl) rfl ?_
      refine go_skip rfl (.un rfl rfl) rfl ?_
      refine go_skip rfl (.un rfl rfl) rfl ?_
      refine go_skip rfl (.un rfl rfl) rfl ?_
      refine go_skip rfl (.un rfl rfl) rfl ?_
      refine go_skip rfl (.un rfl rfl) rfl ?_
      refine go_skip rfl (.un rfl rfl) rfl ?_
      refine go_skip rfl (.no rfl rfl rfl) rfl ?_
      refine go_skip rfl (.no rfl rfl rfl) rfl ?_
      refine go_skip rfl (.un rfl rfl) rfl ?_
      refine go_skip rfl (.un rfl rfl) rfl ?_
      refine go_skip rfl (.un rfl rfl) rfl ?_
      refine go_skip rfl (.un rfl rfl) rfl ?_
      refine go_skip rfl (.un rfl rfl) rfl ?_
      refine go_skip rfl (.un rfl rfl) rfl ?_
      refine go_skip rfl (.un rfl rfl) rfl ?_
      refine go_skip rfl (.no rfl rfl rfl) rfl ?_
      refine go_v rfl .none rfl (o_pickT rfl rfl rfl) ?_
      refine go_v rfl .none rfl (o_assign rfl) ?_
      refine go_nil ?_
      refine ge_then ?_
      refine g_ret ?_
      refine ge_block_ret ?_
      refine ge_then_ret ?_
      refine ret1 (.inl rfl) rfl rfl [base W] (⟨rfl, rfl⟩) (To.sat (by repeat (first | exact .nil | exact .done .refl | (apply To.cons; · (repeat (first | exact .head | apply Sel.tail))) | exact .done (by repeat (first | exact .refl | apply Drop.skip)))))
    ·
      refine gt_n rfl .none rfl (o_buildS1A (vs := staC s) rfl rfl rfl rfl) ?_
      rintro _ _ ⟨b95, rfl, rfl⟩
      refine ⟨(fun _ => (To.sat (by repeat (first | exact .nil | exact .done .refl | (apply To.cons; · (repeat (first | exact .head | apply Sel.tail))) | exact .done (by repeat (first | exact .refl | apply Drop.skip)))))), ?_⟩
      refine gt_n rfl .none rfl (o_appendS rfl rfl (by repeat (first | exact .head | apply Sel.tail)) rfl (flat_length staC 2 staC_len k.states) (all_one (fun _ => rfl) k.states) (by omega) (by unfold maxLen; omega)) ?_
      rintro _ _ ⟨a90, c90, rfl, rfl⟩
      simp only [Nat.zero_add, List.nil_append]
      refine ⟨(fun _ => (To.sat (by repeat (first | exact .nil | exact .done .refl | (apply To.cons; · (repeat (first | exact .head | apply Sel.tail))) | exact .done (by repeat (first | exact .refl | apply Drop.skip)))))), ?_⟩
      refine gt_n rfl .none rfl (o_append rfl rfl (by repeat (first | exact .nil | (apply Part.cons; · (repeat (first | exact .head | apply Sel.tail))))) rfl rfl rfl (by omega) (by unfold maxLen; omega)) ?_
      rintro _ _ ⟨a96, c96, rfl, rfl⟩
      rw [flat_one]
      refine ⟨(fun hG => absurd hG (by decide)), ?_⟩
      first | refine gt_v rfl .none rfl (o_fldS rfl) ?_ | refine gt_v rfl .none rfl (o_fld rfl) ?_
      first | refine gt_u rfl .none (o_store rfl rfl rfl rfl) (fun hG => absurd hG (by decide)) ?_ | refine gt_u rfl .none (o_storeS rfl rfl rfl (by first | assumption | omega | simp)) (fun hG => absurd hG (by decide)) ?_
      refine gt_nil ?_
      refine ge_then ?_
      refine g_seq ?_
      refine g_region ?_
      first | refine gl_v rfl (o_fldS rfl) ?_ | refine gl_v rfl (o_fld rfl) ?_
      first | refine gl_v rfl (o_load rfl rfl) ?_ | refine gl_v rfl (o_loadS rfl rfl) ?_ | refine gl_v rfl (o_loadC rfl) ?_
      refine gl_v rfl (o_move rfl) ?_
      refine gl_v rfl (o_loadA (vs := [sv k.name, iv k.limit, iv k.within, Value.slice k.ca k.cases.length k.cc, Value.slice a96 (k.states.length + 1) c96]) rfl rfl rfl) ?_
      refine gl_v rfl (o_idxS rfl rfl hiL) ?_
      refine gl_u (o_storeSA (vs := [sv k.name, iv k.limit, iv k.within, Value.slice k.ca k.cases.length k.cc, Value.slice a96 (k.states.length + 1) c96]) rfl rfl rfl rfl (by rw [flat_length kndC 5 kndC_len]; simp only [List.length]; omega) (Nat.succ_pos _)) ?_
      rw [show [sv k.name, iv k.limit, iv k.within, Value.slice k.ca k.cases.length k.cc, Value.slice a96 (k.states.length + 1) c96] = kndC { k with sa := a96, sc := c96, states := k.states ++ [s] } by simp [kndC], splice_flat kndC 5 kndC_len _ KK i hiL]
      have hQ := (twice_state hR hk hs a96 c96).trans (if_pos h8)
      refine gl_nil ?_
      refine ge_then ?_
      refine g_seq ?_
      refine g_region ?_
      refine gl_v rfl (o_loadA (vs := [Value.slice a25 KK.length c25]) rfl rfl rfl) ?_
      refine gl_c rfl (o_call rfl (ep_some (prog_l (pa := a25) (pc := c25) (n := KK.length) (KK := KK.set i { k with sa := a96, sc := c96, states := k.states ++ [s] }) (by rw [List.length_set]) [own (.slice a25 KK.length c25) 41 5 KK.length ((KK.set i { k with sa := a96, sc := c96, states := k.states ++ [s] }).flatMap kndC), own (.slice a96 (k.states.length + 1) c96) 44 2 (k.states.length + 1) ((k.states ++ [s]).flatMap staC), base W] (fun h st => prgOk_set (prg_sat hA (by repeat (first | exact .head | apply Sel.tail)) st) (own_rdh (OwS.get (v := .slice a25 KK.length c25) st) (by rw [List.length_set])) (kndOk_sts ((prg_sat hA (by repeat (first | exact .head | apply Sel.tail)) st).kinds k hkm) (own_rdh (OwS.get (v := .slice a96 (k.states.length + 1) c96) st) (by simp)) (by unfold ok63; simp; omega) (fun s' hs' => (List.mem_append.1 hs').elim (((prg_sat hA (by repeat (first | exact .head | apply Sel.tail)) st).kinds k hkm).states s') (fun e => List.mem_singleton.1 e ▸ ((prg_sat hA (by repeat (first | exact .head | apply Sel.tail)) st).kinds k hkm).states s hsm))))) hQ) (by repeat (first | exact .nil | (apply Part.cons; · (repeat (first | exact .head | apply Sel.tail)))))) ?_
      rintro _ R ⟨_, ⟨b, a, cp, rfl, rfl⟩, rfl⟩
      try simp only [List.cons_append, List.nil_append]
      refine gl_v rfl (o_assign rfl) ?_
      refine gl_nil ?_
      refine ge_then ?_
      refine g_seq ?_
      refine g_region ?_
      refine gl_v rfl (o_move rfl) ?_
      refine gl_c rfl (o_call rfl (Where_bad hG b 40 a cp [((i + 1 : Nat) : Int)] (by simp)) (by repeat (first | exact .nil | (apply Part.cons; · (repeat (first | exact .head | apply Sel.tail)))))) ?_
      rintro _ R ⟨_, ⟨a3, cp3, rfl, rfl⟩, rfl⟩
      try simp only [List.cons_append, List.nil_append]
      refine gl_v rfl (o_assign rfl) ?_
      refine gl_nil ?_
      refine ge_then ?_
      refine g_seq ?_
      refine g_draw [6, 16] [] [(0, .loc), (1, .loc), (2, .loc), (3, .loc), (4, .loc), (5, .loc), (6, .eff), (7, .loc), (8, .loc), (9, .loc), (10, .loc), (11, .loc), (12, .loc), (13, .loc), (14, .loc), (15, .loc), (16, .eff), (17, .loc), (18, .loc), (19, .loc), (20, .loc), (21, .loc), (22, .loc), (23, .loc), (24, .loc), (25, .loc), (26, .loc), (27, .loc), (28, .loc), (29, .loc), (30, .loc), (31, .loc), (32, .loc), (33, .loc), (34, .loc), (35, .loc), (36, .loc), (37, .loc), (38, .loc), (39, .loc), (40, .loc), (41, .loc)] [cel b9 41 [sv k.name, iv k.limit, iv k.within, Value.slice k.ca k.cases.length k.cc, Value.slice a96 (k.states.length + 1) c96], intsA a3 cp3 [((i + 1 : Nat) : Int)]] mixed (by kernel_rfl) ?_
      first | refine go_v rfl .none rfl (o_fldS rfl) ?_ | refine go_v rfl .none rfl (o_fld rfl) ?_
      first | refine go_v rfl .none rfl (o_load rfl rfl) ?_ | refine go_v rfl .none rfl (o_loadS rfl rfl) ?_ | refine go_v rfl .none rfl (o_loadC rfl) ?_
      refine go_v rfl .none rfl (o_lenL rfl) ?_
      refine go_v rfl .none rfl (o_is (c := true) (by first | rfl | exact decide_eq_true (by omega) | (simp only [List.length]; exact decide_eq_true (by omega))) (o_eql rfl rfl)) ?_
      refine go_v rfl .none rfl (o_move rfl) ?_
      refine go_v rfl (.yes rfl rfl rfl) rfl (o_move rfl) ?_
      refine go_c rfl (.yes rfl rfl rfl) rfl (o_call rfl (Code_bad hG b 1 40 a cp) (by repeat (first | exact .nil | (apply Part.cons; · (repeat (first | exact .head | apply Sel.tail)))))) ?_
      rintro _ R ⟨_, ⟨rfl, rfl⟩, rfl⟩
      try simp only [List.cons_append, List.nil_append]
      refine ⟨(fun hG => absurd hG (by decide)), ?_⟩
      refine go_v rfl (.yes rfl rfl rfl) rfl (o_is (c := true) (by first | rfl | exact decide_eq_true (by omega) | (simp only [List.length]; exact decide_eq_true (by omega))) (o_eql rfl rfl)) ?_
      refine go_v rfl .none rfl (o_pickT rfl rfl rfl) ?_
      refine go_v rfl .none rfl (o_move rfl) ?_
      refine go_v rfl (.yes rfl rfl rfl) rfl (o_move rfl) ?_
      refine go_v rfl (.yes rfl rfl rfl) rfl (o_lenL rfl) ?_
      refine go_v rfl (.yes rfl rfl rfl) rfl (o_is (c := true) (by first | rfl | exact decide_eq_true (by omega) | (simp only [List.length]; exact decide_eq_true (by omega))) (o_eql rfl rfl)) ?_
      refine go_v rfl .none rfl (o_pickT rfl rfl rfl) ?_
      refine go_v rfl .none rfl (o_move rfl) ?_
      refine go_skip rfl (.no rfl rfl rfl) rfl ?_
      refine go_skip rfl (.no rfl rfl rfl) rfl ?_
      refine go_skip rfl (.no rfl rfl rfl) rfl ?_
      refine go_skip rfl (.no rfl rfl rfl) rfl ?_
      refine go_skip rfl (.un rfl rfl) rfl ?_
      refine go_skip rfl (.un rfl rfl) rfl ?_
      refine go_skip rfl (.un rfl rfl) rfl ?_
      refine go_skip rfl (.no rfl rfl rfl) rfl ?_
      refine go_skip rfl (.no rfl rfl rfl) rfl ?_
      refine go_skip rfl (.un rfl rfl) rfl ?_
      refine go_skip rfl (.un rfl rfl) rfl ?_
      refine go_skip rfl (.un rfl rfl) rfl ?_
      refine go_skip rfl (.un rfl rfl) rfl ?_
      refine go_skip rfl (.un rfl rfl) rfl ?_
      refine go_skip rfl (.un rfl rfl) rfl ?_
      refine go_skip rfl (.no rfl rfl rfl) rfl ?_
      refine go_skip rfl (.no rfl rfl rfl) rfl ?_
      refine go_skip rfl (.un rfl rfl) rfl ?_
      refine go_skip rfl (.un rfl rfl) rfl ?_
      refine go_skip rfl (.un rfl rfl) rfl ?_
      refine go_skip rfl (.un rfl rfl) rfl ?_
      refine go_skip rfl (.un rfl rfl) rfl ?_
      refine go_skip rfl (.un rfl rfl) rfl ?_
      refine go_skip rfl (.un rfl rfl) rfl ?_
      refine go_skip rfl (.no rfl rfl rfl) rfl ?_
      refine go_v rfl .none rfl (o_pickT rfl rfl rfl) ?_
      refine go_v rfl .none rfl (o_assign rfl) ?_
      refine go_nil ?_
      refine ge_then ?_
      refine g_ret ?_
      refine ge_block_ret ?_
      refine ge_then_ret ?_
      refine ret1 (.inl rfl) rfl rfl [base W] (⟨rfl, rfl⟩) (To.sat (by repeat (first | exact .nil | exact .done .refl | (apply To.cons; · (repeat (first | exact .head | apply Sel.tail))) | exact .done (by repeat (first | exact .refl | apply Drop.skip)))))
  ·
    refine gt_n rfl .none rfl (o_buildS1A (vs := staC s) rfl rfl rfl rfl) ?_
    rintro _ _ ⟨b95, rfl, rfl⟩
    refine ⟨(fun _ => (To.sat (by repeat (first | exact .nil | exact .done .refl | (apply To.cons; · (repeat (first | exact .head | apply Sel.tail))) | exact .done (by repeat (first | exact .refl | apply Drop.skip)))))), ?_⟩
    refine gt_n rfl .none rfl (o_buildS0) ?_
    rintro _ _ ⟨b87, rfl, rfl⟩
    refine ⟨(fun _ => (To.sat (by repeat (first | exact .nil | exact .done .refl | (apply To.cons; · (repeat (first | exact .head | apply Sel.tail))) | exact .done (by repeat (first | exact .refl | apply Drop.skip)))))), ?_⟩
    refine gt_n rfl .none rfl (o_appendS rfl rfl (by repeat (first | exact .head | apply Sel.tail)) rfl (flat_length staC 2 staC_len k.states) (all_one (fun _ => rfl) k.states) (by omega) (by unfold maxLen; omega)) ?_
    rintro _ _ ⟨a90, c90, rfl, rfl⟩
    simp only [Nat.zero_add, List.nil_append]
    refine ⟨(fun _ => (To.sat (by repeat (first | exact .nil | exact .done .refl | (apply To.cons; · (repeat (first | exact .head | apply Sel.tail))) | exact .done (by repeat (first | exact .refl | apply Drop.skip)))))), ?_⟩
    refine gt_n rfl .none rfl (o_append rfl rfl (by repeat (first | exact .nil | (apply Part.cons; · (repeat (first | exact .head | apply Sel.tail))))) rfl rfl rfl (by omega) (by unfold maxLen; omega)) ?_
    rintro _ _ ⟨a96, c96, rfl, rfl⟩
    rw [flat_one]
    refine ⟨(fun hG => absurd hG (by decide)), ?_⟩
    first | refine gt_v rfl .none rfl (o_fldS rfl) ?_ | refine gt_v rfl .none rfl (o_fld rfl) ?_
    first | refine gt_u rfl .none (o_store rfl rfl rfl rfl) (fun hG => absurd hG (by decide)) ?_ | refine gt_u rfl .none (o_storeS rfl rfl rfl (by first | assumption | omega | simp)) (fun hG => absurd hG (by decide)) ?_
    refine gt_nil ?_
    refine ge_then ?_
    refine g_seq ?_
    refine g_region ?_
    first | refine gl_v rfl (o_fldS rfl) ?_ | refine gl_v rfl (o_fld rfl) ?_
    first | refine gl_v rfl (o_load rfl rfl) ?_ | refine gl_v rfl (o_loadS rfl rfl) ?_ | refine gl_v rfl (o_loadC rfl) ?_
    refine gl_v rfl (o_move rfl) ?_
    refine gl_v rfl (o_loadA (vs := [sv k.name, iv k.limit, iv k.within, Value.slice k.ca k.cases.length k.cc, Value.slice a96 (k.states.length + 1) c96]) rfl rfl rfl) ?_
    refine gl_v rfl (o_idxS rfl rfl hiL) ?_
    refine gl_u (o_storeSA (vs := [sv k.name, iv k.limit, iv k.within, Value.slice k.ca k.cases.length k.cc, Value.slice a96 (k.states.length + 1) c96]) rfl rfl rfl rfl (by rw [flat_length kndC 5 kndC_len]; simp only [List.length]; omega) (Nat.succ_pos _)) ?_
    rw [show [sv k.name, iv k.limit, iv k.within, Value.slice k.ca k.cases.length k.cc, Value.slice a96 (k.states.length + 1) c96] = kndC { k with sa := a96, sc := c96, states := k.states ++ [s] } by simp [kndC], splice_flat kndC 5 kndC_len _ KK i hiL]
    have hQ := (twice_state hR hk hs a96 c96).trans (if_pos h8)
    refine gl_nil ?_
    refine ge_then ?_
    refine g_seq ?_
    refine g_region ?_
    refine gl_v rfl (o_loadA (vs := [Value.slice a25 KK.length c25]) rfl rfl rfl) ?_
    refine gl_c rfl (o_call rfl (ep_some (prog_l (pa := a25) (pc := c25) (n := KK.length) (KK := KK.set i { k with sa := a96, sc := c96, states := k.states ++ [s] }) (by rw [List.length_set]) [own (.slice a25 KK.length c25) 41 5 KK.length ((KK.set i { k with sa := a96, sc := c96, states := k.states ++ [s] }).flatMap kndC), own (.slice a96 (k.states.length + 1) c96) 44 2 (k.states.length + 1) ((k.states ++ [s]).flatMap staC), base W] (fun h st => prgOk_set (prg_sat hA (by repeat (first | exact .head | apply Sel.tail)) st) (own_rdh (OwS.get (v := .slice a25 KK.length c25) st) (by rw [List.length_set])) (kndOk_sts ((prg_sat hA (by repeat (first | exact .head | apply Sel.tail)) st).kinds k hkm) (own_rdh (OwS.get (v := .slice a96 (k.states.length + 1) c96) st) (by simp)) (by unfold ok63; simp; omega) (fun s' hs' => (List.mem_append.1 hs').elim (((prg_sat hA (by repeat (first | exact .head | apply Sel.tail)) st).kinds k hkm).states s') (fun e => List.mem_singleton.1 e ▸ ((prg_sat hA (by repeat (first | exact .head | apply Sel.tail)) st).kinds k hkm).states s hsm))))) hQ) (by repeat (first | exact .nil | (apply Part.cons; · (repeat (first | exact .head | apply Sel.tail)))))) ?_
    rintro _ R ⟨_, ⟨b, a, cp, rfl, rfl⟩, rfl⟩
    try simp only [List.cons_append, List.nil_append]
    refine gl_v rfl (o_assign rfl) ?_
    refine gl_nil ?_
    refine ge_then ?_
    refine g_seq ?_
    refine g_region ?_
    refine gl_v rfl (o_move rfl) ?_
    refine gl_c rfl (o_call rfl (Where_bad hG b 40 a cp [((i + 1 : Nat) : Int)] (by simp)) (by repeat (first | exact .nil | (apply Part.cons; · (repeat (first | exact .head | apply Sel.tail)))))) ?_
    rintro _ R ⟨_, ⟨a3, cp3, rfl, rfl⟩, rfl⟩
    try simp only [List.cons_append, List.nil_append]
    refine gl_v rfl (o_assign rfl) ?_
    refine gl_nil ?_
    refine ge_then ?_
    refine g_seq ?_
    refine g_draw [6, 16] [] [(0, .loc), (1, .loc), (2, .loc), (3, .loc), (4, .loc), (5, .loc), (6, .eff), (7, .loc), (8, .loc), (9, .loc), (10, .loc), (11, .loc), (12, .loc), (13, .loc), (14, .loc), (15, .loc), (16, .eff), (17, .loc), (18, .loc), (19, .loc), (20, .loc), (21, .loc), (22, .loc), (23, .loc), (24, .loc), (25, .loc), (26, .loc), (27, .loc), (28, .loc), (29, .loc), (30, .loc), (31, .loc), (32, .loc), (33, .loc), (34, .loc), (35, .loc), (36, .loc), (37, .loc), (38, .loc), (39, .loc), (40, .loc), (41, .loc)] [cel b9 41 [sv k.name, iv k.limit, iv k.within, Value.slice k.ca k.cases.length k.cc, Value.slice a96 (k.states.length + 1) c96], intsA a3 cp3 [((i + 1 : Nat) : Int)]] mixed (by kernel_rfl) ?_
    first | refine go_v rfl .none rfl (o_fldS rfl) ?_ | refine go_v rfl .none rfl (o_fld rfl) ?_
    first | refine go_v rfl .none rfl (o_load rfl rfl) ?_ | refine go_v rfl .none rfl (o_loadS rfl rfl) ?_ | refine go_v rfl .none rfl (o_loadC rfl) ?_
    refine go_v rfl .none rfl (o_lenL rfl) ?_
    refine go_v rfl .none rfl (o_is (c := true) (by first | rfl | exact decide_eq_true (by omega) | (simp only [List.length]; exact decide_eq_true (by omega))) (o_eql rfl rfl)) ?_
    refine go_v rfl .none rfl (o_move rfl) ?_
    refine go_v rfl (.yes rfl rfl rfl) rfl (o_move rfl) ?_
    refine go_c rfl (.yes rfl rfl rfl) rfl (o_call rfl (Code_bad hG b 1 40 a cp) (by repeat (first | exact .nil | (apply Part.cons; · (repeat (first | exact .head | apply Sel.tail)))))) ?_
    rintro _ R ⟨_, ⟨rfl, rfl⟩, rfl⟩
    try simp only [List.cons_append, List.nil_append]
    refine ⟨(fun hG => absurd hG (by decide)), ?_⟩
    refine go_v rfl (.yes rfl rfl rfl) rfl (o_is (c := true) (by first | rfl | exact decide_eq_true (by omega) | (simp only [List.length]; exact decide_eq_true (by omega))) (o_eql rfl rfl)) ?_
    refine go_v rfl .none rfl (o_pickT rfl rfl rfl) ?_
    refine go_v rfl .none rfl (o_move rfl) ?_
    refine go_v rfl (.yes rfl rfl rfl) rfl (o_move rfl) ?_
    refine go_v rfl (.yes rfl rfl rfl) rfl (o_lenL rfl) ?_
    refine go_v rfl (.yes rfl rfl rfl) rfl (o_is (c := true) (by first | rfl | exact decide_eq_true (by omega) | (simp only [List.length]; exact decide_eq_true (by omega))) (o_eql rfl rfl)) ?_
    refine go_v rfl .none rfl (o_pickT rfl rfl rfl) ?_
    refine go_v rfl .none rfl (o_move rfl) ?_
    refine go_skip rfl (.no rfl rfl rfl) rfl ?_
    refine go_skip rfl (.no rfl rfl rfl) rfl ?_
    refine go_skip rfl (.no rfl rfl rfl) rfl ?_
    refine go_skip rfl (.no rfl rfl rfl) rfl ?_
    refine go_skip rfl (.un rfl rfl) rfl ?_
    refine go_skip rfl (.un rfl rfl) rfl ?_
    refine go_skip rfl (.un rfl rfl) rfl ?_
    refine go_skip rfl (.no rfl rfl rfl) rfl ?_
    refine go_skip rfl (.no rfl rfl rfl) rfl ?_
    refine go_skip rfl (.un rfl rfl) rfl ?_
    refine go_skip rfl (.un rfl rfl) rfl ?_
    refine go_skip rfl (.un rfl rfl) rfl ?_
    refine go_skip rfl (.un rfl rfl) rfl ?_
    refine go_skip rfl (.un rfl rfl) rfl ?_
    refine go_skip rfl (.un rfl rfl) rfl ?_
    refine go_skip rfl (.no rfl rfl rfl) rfl ?_
    refine go_skip rfl (.no rfl rfl rfl) rfl ?_
    refine go_skip rfl (.un rfl rfl) rfl ?_
    refine go_skip rfl (.un rfl rfl) rfl ?_
    refine go_skip rfl (.un rfl rfl) rfl ?_
    refine go_skip rfl (.un rfl rfl) rfl ?_
    refine go_skip rfl (.un rfl rfl) rfl ?_
    refine go_skip rfl (.un rfl rfl) rfl ?_
    refine go_skip rfl (.un rfl rfl) rfl ?_
    refine go_skip rfl (.no rfl rfl rfl) rfl ?_
    refine go_v rfl .none rfl (o_pickT rfl rfl rfl) ?_
    refine go_v rfl .none rfl (o_assign rfl) ?_
    refine go_nil ?_
    refine ge_then ?_
    refine g_ret ?_
    refine ge_block_ret ?_
    refine ge_then_ret ?_
    refine ret1 (.inl rfl) rfl rfl [base W] (⟨rfl, rfl⟩) (To.sat (by repeat (first | exact .nil | exact .done .refl | (apply To.cons; · (repeat (first | exact .head | apply Sel.tail))) | exact .done (by repeat (first | exact .refl | apply Drop.skip)))))

set_option maxRecDepth 8000 in
set_option maxHeartbeats 4000000 in
theorem CheckTwice_1b {W : World} (hG : Gok W) (pa : Option Addr) (pc : Nat) (KK : List Knd) (hA : ∀ h, base W h → PrgOk h pa pc KK) (w : Nat) (hw : w ≤ 255) (lv : Nat) (hlv : lv ≤ 255) (hR : prgF KK = none) (hL : 1 ≤ KK.length ∧ KK.length ≤ 8) (i : Nat) (hi : w % KK.length = i) (k : Knd) (hk : KK[i]? = some k) (s : Sta) (hs : k.states[0]? = some s) (hv : lv % 3 = 1) (h8 : ¬ k.states.length = 8) : FnS Tryd.prog 5 [.agg #[.slice pa KK.length pc], .int .u8 (w : Int), .int .u8 (lv : Int)] [base W] (fun u Bs => u = .bool true ∧ Bs = [base W]) := by
  refine fn_body Tryd.func5 rfl rfl rfl ?_
  intro W0 R
  simp only [List.zipIdx_cons, List.zipIdx_nil, List.map_cons, List.map_nil, Nat.zero_add, Nat.reduceAdd, List.cons_append, List.nil_append]
  obtain ⟨hb, hwb⟩ : ∃ h, base W h := ⟨hpOf W, fun _ _ => rfl⟩
  have hb0 := hA _ hwb
  have hKn := hb0.len; have hKc := hb0.rd.2
  haveI rK : RdA (.slice pa KK.length pc) (base W) KK.length (KK.flatMap kndC) := ⟨fun h => (hA _ h).rd.1⟩
  unfold ok63 at hKn
  have hiL := (List.getElem?_eq_some_iff.1 hk).1
  have hkm := List.mem_of_getElem? hk
  have hkO := hb0.kinds k hkm
  have hSn := hkO.lens; have hSc := hkO.rds.2; have hCn := hkO.lenc
  haveI rS : RdA (.slice k.sa k.states.length k.sc) (base W) k.states.length (k.states.flatMap staC) := ⟨fun h => ((hA _ h).kinds k hkm).rds.1⟩
  unfold ok63 at hSn hCn
  obtain ⟨⟨_, _, _, _, hC8, hS1, hS8⟩, hst⟩ := kind_facts hR hk
  have hR16 : s.rows.length ≤ 16 := by
    have := (staE_zero.1 ((staF_none hs).1 (hst 0 (by omega))).1).2.2
    simp at this; omega
  have hjL := (List.getElem?_eq_some_iff.1 hs).1
  have hsm := List.mem_of_getElem? hs
  have hsO := hkO.states s hsm
  have hRn := hsO.len
  haveI rR : RdA (.slice s.ra s.rows.length s.rc) (base W) s.rows.length (s.rows.flatMap rowC) := ⟨fun h => (((hA _ h).kinds k hkm).states s hsm).rd.1⟩
  unfold ok63 at hRn
  
  refine g_seq ?_
  refine g_region ?_
  refine gl_n rfl (o_boxA rfl) ?_
  rintro _ _ ⟨b3, rfl, rfl⟩
  refine gl_v rfl (o_assign rfl) ?_
  refine gl_nil ?_
  refine ge_then ?_
  refine g_seq ?_
  refine g_seq ?_
  refine g_region ?_
  refine gl_c rfl (o_call rfl (alive_spec hG) (by repeat (first | exact .nil | (apply Part.cons; · (repeat (first | exact .head | apply Sel.tail)))))) ?_
  rintro _ R ⟨_, ⟨rfl, rfl⟩, rfl⟩
  try simp only [List.cons_append, List.nil_append]
  refine gl_v rfl (o_is (c := false) (by rfl) (o_not rfl)) ?_
  refine gl_nil ?_
  refine ge_then ?_
  refine g_cond_false rfl ?_
  refine g_skip ?_
  refine ge_then ?_
  refine g_seq ?_
  refine g_seq ?_
  refine g_region ?_
  first | refine gl_v rfl (o_loadSA rfl rfl rfl) ?_ | refine gl_v rfl (o_loadA rfl rfl rfl) ?_
  refine gl_c rfl (o_call rfl (ep_none (prog' pa pc KK (base W) hA) hR) (by repeat (first | exact .nil | (apply Part.cons; · (repeat (first | exact .head | apply Sel.tail)))))) ?_
  rintro _ R ⟨_, ⟨rfl, rfl⟩, rfl⟩
  try simp only [List.cons_append, List.nil_append]
  refine gl_v rfl (o_neqnI rfl) ?_
  refine gl_nil ?_
  refine ge_then ?_
  refine g_cond_false rfl ?_
  refine g_skip ?_
  refine ge_then ?_
  refine g_seq ?_
  refine g_region ?_
  refine gl_n rfl (o_buildS0) ?_
  rintro _ _ ⟨b22, rfl, rfl⟩
  first | refine gl_v rfl (o_fldS rfl) ?_ | refine gl_v rfl (o_fld rfl) ?_
  first | refine gl_v rfl (o_load rfl rfl) ?_ | refine gl_v rfl (o_loadS rfl rfl) ?_ | refine gl_v rfl (o_loadC rfl) ?_
  refine gl_n rfl (o_appendS rfl rfl (by repeat (first | exact .head | apply Sel.tail)) rfl (flat_length kndC 5 kndC_len KK) (all_one (fun _ => rfl) KK) (by omega) (by unfold maxLen; omega)) ?_
  rintro _ _ ⟨a25, c25, rfl, rfl⟩
  simp only [Nat.zero_add, List.nil_append]
  refine gl_v rfl (o_build rfl rfl) ?_
  refine gl_n rfl (o_alloc) ?_
  rintro _ _ ⟨b7, rfl, rfl⟩
  first | refine gl_u (o_storeSA rfl rfl rfl rfl (by simp; omega) (by simp)) ?_ | refine gl_u (o_storeA rfl rfl rfl rfl rfl) ?_
  refine gl_nil ?_
  refine ge_then ?_
  refine g_seq ?_
  refine g_region ?_
  refine gl_v rfl (o_move rfl) ?_
  refine gl_v rfl (o_convR ((w : Nat) : Int) (wr_i64 (by omega)) rfl) ?_
  first | refine gl_v rfl (o_fldS rfl) ?_ | refine gl_v rfl (o_fld rfl) ?_
  first | refine gl_v rfl (o_load rfl rfl) ?_ | refine gl_v rfl (o_loadS rfl rfl) ?_ | refine gl_v rfl (o_loadC rfl) ?_
  refine gl_v rfl (o_lenL rfl) ?_
  refine gl_v rfl (o_remR ((i : Nat) : Int) (by rw [tmodn, hi]) rfl rfl (by omega)) ?_
  refine gl_v rfl (o_assign rfl) ?_
  refine gl_nil ?_
  refine ge_then ?_
  refine g_seq ?_
  refine g_region ?_
  first | refine gl_v rfl (o_fldS rfl) ?_ | refine gl_v rfl (o_fld rfl) ?_
  first | refine gl_v rfl (o_load rfl rfl) ?_ | refine gl_v rfl (o_loadS rfl rfl) ?_ | refine gl_v rfl (o_loadC rfl) ?_
  refine gl_v rfl (o_move rfl) ?_
  refine gl_v rfl (o_idxS rfl rfl hiL) ?_
  refine gl_v rfl (o_loadSA rfl (flat_take kndC 5 kndC_len hk) rfl) ?_
  refine gl_n rfl (o_alloc) ?_
  rintro _ _ ⟨b9, rfl, rfl⟩
  first | refine gl_u (o_storeSA rfl rfl rfl rfl (by simp; omega) (by simp)) ?_ | refine gl_u (o_storeA rfl rfl rfl rfl rfl) ?_
  refine gl_nil ?_
  refine ge_then ?_
  refine g_seq ?_
  refine g_seq ?_
  refine g_region ?_
  refine gl_v rfl (o_move rfl) ?_
  refine gl_v rfl (o_remR (1) (by rw [show (3 : Int) = ((3 : Nat) : Int) from rfl, tmodn, hv]; rfl) rfl rfl (by decide)) ?_
  refine gl_nil ?_
  refine ge_then ?_
  refine g_block ?_
  refine g_seq ?_
  refine g_region ?_
  refine gl_v rfl (o_is (c := false) (by rfl) (o_eql rfl rfl)) ?_
  refine gl_v rfl (o_assign rfl) ?_
  refine gl_nil ?_
  refine ge_then ?_
  refine g_cond_false rfl ?_
  refine g_seq ?_
  refine g_region ?_
  refine gl_v rfl (o_is (c := true) (by rfl) (o_eql rfl rfl)) ?_
  refine gl_v rfl (o_assign rfl) ?_
  refine gl_nil ?_
  refine ge_then ?_
  refine g_cond_true rfl ?_
  refine g_seq ?_
  refine g_treeM [0, 3, 8, 9, 11] [0, 3, 8] (.stab 1 (.stab 2 (.stab 4 (.stab 5 (.stab 6 (.stab 7 (.eff 0 (.eff 3 (.eff 8 (.eff 9 (.loc 10 (.eff 11 .nil .nil)) .nil) .nil) (.eff 8 (.eff 3 (.eff 9 (.loc 10 (.eff 11 .nil .nil)) .nil) .nil) .nil)) (.eff 8 (.eff 0 (.eff 3 (.eff 9 (.loc 10 (.eff 11 .nil .nil)) .nil) .nil) .nil) .nil)))))))) [cel b9 41 (kndC k), base W] mixed (by kernel_rfl) ?_
  first | refine gt_vs rfl .none rfl (o_fldS rfl) (To.sat (by repeat (first | exact .nil | exact .done .refl | (apply To.cons; · (repeat (first | exact .head | apply Sel.tail))) | exact .done (by repeat (first | exact .refl | apply Drop.skip))))) ?_ | refine gt_vs rfl .none rfl (o_fld rfl) (To.sat (by repeat (first | exact .nil | exact .done .refl | (apply To.cons; · (repeat (first | exact .head | apply Sel.tail))) | exact .done (by repeat (first | exact .refl | apply Drop.skip))))) ?_
  first | refine gt_vs rfl .none rfl (o_load rfl rfl) (To.sat (by repeat (first | exact .nil | exact .done .refl | (apply To.cons; · (repeat (first | exact .head | apply Sel.tail))) | exact .done (by repeat (first | exact .refl | apply Drop.skip))))) ?_ | refine gt_vs rfl .none rfl (o_loadS rfl rfl) (To.sat (by repeat (first | exact .nil | exact .done .refl | (apply To.cons; · (repeat (first | exact .head | apply Sel.tail))) | exact .done (by repeat (first | exact .refl | apply Drop.skip))))) ?_ | refine gt_vs rfl .none rfl (o_loadC rfl) (To.sat (by repeat (first | exact .nil | exact .done .refl | (apply To.cons; · (repeat (first | exact .head | apply Sel.tail))) | exact .done (by repeat (first | exact .refl | apply Drop.skip))))) ?_
  first | refine gt_vs rfl .none rfl (o_fldS rfl) (To.sat (by repeat (first | exact .nil | exact .done .refl | (apply To.cons; · (repeat (first | exact .head | apply Sel.tail))) | exact .done (by repeat (first | exact .refl | apply Drop.skip))))) ?_ | refine gt_vs rfl .none rfl (o_fld rfl) (To.sat (by repeat (first | exact .nil | exact .done .refl | (apply To.cons; · (repeat (first | exact .head | apply Sel.tail))) | exact .done (by repeat (first | exact .refl | apply Drop.skip))))) ?_
  first | refine gt_vs rfl .none rfl (o_load rfl rfl) (To.sat (by repeat (first | exact .nil | exact .done .refl | (apply To.cons; · (repeat (first | exact .head | apply Sel.tail))) | exact .done (by repeat (first | exact .refl | apply Drop.skip))))) ?_ | refine gt_vs rfl .none rfl (o_loadS rfl rfl) (To.sat (by repeat (first | exact .nil | exact .done .refl | (apply To.cons; · (repeat (first | exact .head | apply Sel.tail))) | exact .done (by repeat (first | exact .refl | apply Drop.skip))))) ?_ | refine gt_vs rfl .none rfl (o_loadC rfl) (To.sat (by repeat (first | exact .nil | exact .done .refl | (apply To.cons; · (repeat (first | exact .head | apply Sel.tail))) | exact .done (by repeat (first | exact .refl | apply Drop.skip))))) ?_
  refine gt_vs rfl .none rfl (o_idxS rfl rfl (show 0 < k.states.length by omega)) (To.sat (by repeat (first | exact .nil | exact .done .refl | (apply To.cons; · (repeat (first | exact .head | apply Sel.tail))) | exact .done (by repeat (first | exact .refl | apply Drop.skip))))) ?_
  refine gt_vs rfl .none rfl (o_loadSA (vs := staC s) rfl (flat_take staC 2 staC_len hs) rfl) (To.sat (by repeat (first | exact .nil | exact .done .refl | (apply To.cons; · (repeat (first | exact .head | apply Sel.tail))) | exact .done (by repeat (first | exact .refl | apply Drop.skip))))) ?_
  refine gt_alts ?_ ?_
  ·
    refine gt_n rfl .none rfl (o_buildS0) ?_
    rintro _ _ ⟨b87, rfl, rfl⟩
    refine ⟨(fun _ => (To.sat (by repeat (first | exact .nil | exact .done .refl | (apply To.cons; · (repeat (first | exact .head | apply Sel.tail))) | exact .done (by repeat (first | exact .refl | apply Drop.skip)))))), ?_⟩
    refine gt_alts ?_ ?_
    ·
      refine gt_n rfl .none rfl (o_appendS rfl rfl (by repeat (first | exact .head | apply Sel.tail)) rfl (flat_length staC 2 staC_len k.states) (all_one (fun _ => rfl) k.states) (by omega) (by unfold maxLen; omega)) ?_
      rintro _ _ ⟨a90, c90, rfl, rfl⟩
      simp only [Nat.zero_add, List.nil_append]
      refine ⟨(fun _ => (To.sat (by repeat (first | exact .nil | exact .done .refl | (apply To.cons; · (repeat (first | exact .head | apply Sel.tail))) | exact .done (by repeat (first | exact .refl | apply Drop.skip)))))), ?_⟩
      refine gt_n rfl .none rfl (o_buildS1A (vs := staC s) rfl rfl rfl rfl) ?_
      rintro _ _ ⟨b95, rfl, rfl⟩
      refine ⟨(fun _ => (To.sat (by repeat (first | exact .nil | exact .done .refl | (apply To.cons; · (repeat (first | exact .head | apply Sel.tail))) | exact .done (by repeat (first | exact .refl | apply Drop.skip)))))), ?_⟩
      refine gt_n rfl .none rfl (o_append rfl rfl (by repeat (first | exact .nil | (apply Part.cons; · (repeat (first | exact .head | apply Sel.tail))))) rfl rfl rfl (by omega) (by unfold maxLen; omega)) ?_
      rintro _ _ ⟨a96, c96, rfl, rfl⟩
      rw [flat_one]
      refine ⟨(fun hG => absurd hG (by decide)), ?_⟩
      first | refine gt_v rfl .none rfl (o_fldS rfl) ?_ | refine gt_v rfl .none rfl (o_fld rfl) ?_
      first | refine gt_u rfl .none (o_store rfl rfl rfl rfl) (fun hG => absurd hG (by decide)) ?_ | refine gt_u rfl .none (o_storeS rfl rfl rfl (by first | assumption | omega | simp)) (fun hG => absurd hG (by decide)) ?_
      refine gt_nil ?_
      refine ge_then ?_
      refine g_seq ?_
      refine g_region ?_
      first | refine gl_v rfl (o_fldS rfl) ?_ | refine gl_v rfl (o_fld rfl) ?_
      first | refine gl_v rfl (o_load rfl rfl) ?_ | refine gl_v rfl (o_loadS rfl rfl) ?_ | refine gl_v rfl (o_loadC rfl) ?_
      refine gl_v rfl (o_move rfl) ?_
      refine gl_v rfl (o_loadA (vs := [sv k.name, iv k.limit, iv k.within, Value.slice k.ca k.cases.length k.cc, Value.slice a96 (k.states.length + 1) c96]) rfl rfl rfl) ?_
      refine gl_v rfl (o_idxS rfl rfl hiL) ?_
      refine gl_u (o_storeSA (vs := [sv k.name, iv k.limit, iv k.within, Value.slice k.ca k.cases.length k.cc, Value.slice a96 (k.states.length + 1) c96]) rfl rfl rfl rfl (by rw [flat_length kndC 5 kndC_len]; simp only [List.length]; omega) (Nat.succ_pos _)) ?_
      rw [show [sv k.name, iv k.limit, iv k.within, Value.slice k.ca k.cases.length k.cc, Value.slice a96 (k.states.length + 1) c96] = kndC { k with sa := a96, sc := c96, states := k.states ++ [s] } by simp [kndC], splice_flat kndC 5 kndC_len _ KK i hiL]
      have hQ := (twice_state hR hk hs a96 c96).trans (if_neg h8)
      refine gl_nil ?_
      refine ge_then ?_
      refine g_seq ?_
      refine g_region ?_
      refine gl_v rfl (o_loadA (vs := [Value.slice a25 KK.length c25]) rfl rfl rfl) ?_
      refine gl_c rfl (o_call rfl (ep_some (prog_l (pa := a25) (pc := c25) (n := KK.length) (KK := KK.set i { k with sa := a96, sc := c96, states := k.states ++ [s] }) (by rw [List.length_set]) [own (.slice a25 KK.length c25) 41 5 KK.length ((KK.set i { k with sa := a96, sc := c96, states := k.states ++ [s] }).flatMap kndC), own (.slice a96 (k.states.length + 1) c96) 44 2 (k.states.length + 1) ((k.states ++ [s]).flatMap staC), base W] (fun h st => prgOk_set (prg_sat hA (by repeat (first | exact .head | apply Sel.tail)) st) (own_rdh (OwS.get (v := .slice a25 KK.length c25) st) (by rw [List.length_set])) (kndOk_sts ((prg_sat hA (by repeat (first | exact .head | apply Sel.tail)) st).kinds k hkm) (own_rdh (OwS.get (v := .slice a96 (k.states.length + 1) c96) st) (by simp)) (by unfold ok63; simp; omega) (fun s' hs' => (List.mem_append.1 hs').elim (((prg_sat hA (by repeat (first | exact .head | apply Sel.tail)) st).kinds k hkm).states s') (fun e => List.mem_singleton.1 e ▸ ((prg_sat hA (by repeat (first | exact .head | apply Sel.tail)) st).kinds k hkm).states s hsm))))) hQ) (by repeat (first | exact .nil | (apply Part.cons; · (repeat (first | exact .head | apply Sel.tail)))))) ?_
      rintro _ R ⟨_, ⟨b, a, cp, rfl, rfl⟩, rfl⟩
      try simp only [List.cons_append, List.nil_append]
      refine gl_v rfl (o_assign rfl) ?_
      refine gl_nil ?_
      refine ge_then ?_
      refine g_seq ?_
      refine g_region ?_
      refine gl_v rfl (o_move rfl) ?_
      refine gl_c rfl (o_call rfl (Where_bad hG b 41 a cp [((i + 1 : Nat) : Int), ((k.states.length + 1 : Nat) : Int)] (by simp)) (by repeat (first | exact .nil | (apply Part.cons; · (repeat (first | exact .head | apply Sel.tail)))))) ?_
      rintro _ R ⟨_, ⟨a3, cp3, rfl, rfl⟩, rfl⟩
      try simp only [List.cons_append, List.nil_append]
      refine gl_v rfl (o_assign rfl) ?_
      refine gl_nil ?_
      refine ge_then ?_
      refine g_seq ?_
      refine g_draw [6, 16] [] [(0, .loc), (1, .loc), (2, .loc), (3, .loc), (4, .loc), (5, .loc), (6, .eff), (7, .loc), (8, .loc), (9, .loc), (10, .loc), (11, .loc), (12, .loc), (13, .loc), (14, .loc), (15, .loc), (16, .eff), (17, .loc), (18, .loc), (19, .loc), (20, .loc), (21, .loc), (22, .loc), (23, .loc), (24, .loc), (25, .loc), (26, .loc), (27, .loc), (28, .loc), (29, .loc), (30, .loc), (31, .loc), (32, .loc), (33, .loc), (34, .loc), (35, .loc), (36, .loc), (37, .loc), (38, .loc), (39, .loc), (40, .loc), (41, .loc)] [cel b9 41 [sv k.name, iv k.limit, iv k.within, Value.slice k.ca k.cases.length k.cc, Value.slice a96 (k.states.length + 1) c96], intsA a3 cp3 [((i + 1 : Nat) : Int), ((k.states.length + 1 : Nat) : Int)]] mixed (by kernel_rfl) ?_
      first | refine go_v rfl .none rfl (o_fldS rfl) ?_ | refine go_v rfl .none rfl (o_fld rfl) ?_
      first | refine go_v rfl .none rfl (o_load rfl rfl) ?_ | refine go_v rfl .none rfl (o_loadS rfl rfl) ?_ | refine go_v rfl .none rfl (o_loadC rfl) ?_
      refine go_v rfl .none rfl (o_lenL rfl) ?_
      refine go_v rfl .none rfl (o_is (c := false) (by first | rfl | exact decide_eq_false (by omega) | (simp only [List.length]; exact decide_eq_false (by omega))) (o_eql rfl rfl)) ?_
      refine go_v rfl .none rfl (o_move rfl) ?_
      refine go_skip rfl (.no rfl rfl rfl) rfl ?_
      refine go_skip rfl (.no rfl rfl rfl) rfl ?_
      refine go_skip rfl (.no rfl rfl rfl) rfl ?_
      refine go_v rfl .none rfl (o_pickF rfl rfl rfl) ?_
      refine go_v rfl .none rfl (o_move rfl) ?_
      refine go_skip rfl (.no rfl rfl rfl) rfl ?_
      refine go_skip rfl (.no rfl rfl rfl) rfl ?_
      refine go_skip rfl (.no rfl rfl rfl) rfl ?_
      refine go_v rfl .none rfl (o_pickF rfl rfl rfl) ?_
      refine go_v rfl .none rfl (o_move rfl) ?_
      refine go_v rfl (.yes rfl rfl rfl) rfl (o_move rfl) ?_
      refine go_c rfl (.yes rfl rfl rfl) rfl (o_call rfl (Code_bad hG b 2 41 a cp) (by repeat (first | exact .nil | (apply Part.cons; · (repeat (first | exact .head | apply Sel.tail)))))) ?_
      rintro _ R ⟨_, ⟨rfl, rfl⟩, rfl⟩
      try simp only [List.cons_append, List.nil_append]
      refine ⟨(fun hG => absurd hG (by decide)), ?_⟩
      refine go_v rfl (.yes rfl rfl rfl) rfl (o_is (c := true) (by first | rfl | exact decide_eq_true (by omega) | (simp only [List.length]; exact decide_eq_true (by omega))) (o_eql rfl rfl)) ?_
      refine go_v rfl (.yes rfl rfl rfl) rfl (o_move rfl) ?_
      refine go_v rfl (.yes rfl rfl rfl) rfl (o_move rfl) ?_
      refine go_v rfl (.yes rfl rfl rfl) rfl (o_lenL rfl) ?_
      refine go_v rfl (.yes rfl rfl rfl) rfl (o_is (c := true) (by first | rfl | exact decide_eq_true (by omega) | (simp only [List.length]; exact decide_eq_true (by omega))) (o_eql rfl rfl)) ?_
      refine go_v rfl (.yes rfl rfl rfl) rfl (o_pickT rfl rfl rfl) ?_
      refine go_v rfl (.yes rfl rfl rfl) rfl (o_move rfl) ?_
      refine go_v rfl (.yes rfl rfl rfl) rfl (o_move rfl) ?_
      refine go_v rfl (.yes rfl rfl rfl) rfl (o_idxS rfl rfl (by simp)) ?_
      refine go_v rfl (.yes rfl rfl rfl) rfl (o_loadS rfl rfl) ?_
      refine go_v rfl (.yes rfl rfl rfl) rfl (o_move rfl) ?_
      refine go_v rfl (.yes rfl rfl rfl) rfl (o_addR ((i + 1 : Nat) : Int) (by rw [wr_i64 (by omega)]; omega) rfl rfl) ?_
      refine go_v rfl (.yes rfl rfl rfl) rfl (o_is (c := true) (by first | rfl | exact decide_eq_true (by omega) | (simp only [List.length]; exact decide_eq_true (by omega))) (o_eql rfl rfl)) ?_
      refine go_v rfl (.yes rfl rfl rfl) rfl (o_pickT rfl rfl rfl) ?_
      refine go_v rfl (.yes rfl rfl rfl) rfl (o_move rfl) ?_
      refine go_v rfl (.yes rfl rfl rfl) rfl (o_move rfl) ?_
      refine go_v rfl (.yes rfl rfl rfl) rfl (o_idxS rfl rfl (by simp)) ?_
      refine go_v rfl (.yes rfl rfl rfl) rfl (o_loadS rfl rfl) ?_
      first | refine go_v rfl (.yes rfl rfl rfl) rfl (o_fldS rfl) ?_ | refine go_v rfl (.yes rfl rfl rfl) rfl (o_fld rfl) ?_
      first | refine go_v rfl (.yes rfl rfl rfl) rfl (o_load rfl rfl) ?_ | refine go_v rfl (.yes rfl rfl rfl) rfl (o_loadS rfl rfl) ?_ | refine go_v rfl (.yes rfl rfl rfl) rfl (o_loadC rfl) ?_
      refine go_v rfl (.yes rfl rfl rfl) rfl (o_lenL rfl) ?_
      refine go_v rfl (.yes rfl rfl rfl) rfl (o_is (c := true) (by first | rfl | exact decide_eq_true (by omega) | (simp only [List.length]; exact decide_eq_true (by omega))) (o_eql rfl rfl)) ?_
      refine go_v rfl (.yes rfl rfl rfl) rfl (o_pickT rfl rfl rfl) ?_
      refine go_v rfl .none rfl (o_pickF rfl rfl rfl) ?_
      refine go_v rfl .none rfl (o_assign rfl) ?_
      refine go_nil ?_
      refine ge_then ?_
      refine g_ret ?_
      refine ge_block_ret ?_
      refine ge_then_ret ?_
      refine ret1 (.inl rfl) rfl rfl [base W] (⟨rfl, rfl⟩) (To.sat (by repeat (first | exact .nil | exact .done .refl | (apply To.cons; · (repeat (first | exact .head | apply Sel.tail))) | exact .done (by repeat (first | exact .refl | apply Drop.skip)))))
    ·
      refine gt_n rfl .none rfl (o_buildS1A (vs := staC s) rfl rfl rfl rfl) ?_
      rintro _ _ ⟨b95, rfl, rfl⟩
      refine ⟨(fun _ => (To.sat (by repeat (first | exact .nil | exact .done .refl | (apply To.cons; · (repeat (first | exact .head | apply Sel.tail))) | exact .done (by repeat (first | exact .refl | apply Drop.skip)))))), ?_⟩
      refine gt_n rfl .none rfl (o_appendS rfl rfl (by repeat (first | exact .head | apply Sel.tail)) rfl (flat_length staC 2 staC_len k.states) (all_one (fun _ => rfl) k.states) (by omega) (by unfold maxLen; omega)) ?_
      rintro _ _ ⟨a90, c90, rfl, rfl⟩
      simp only [Nat.zero_add, List.nil_append]
      refine ⟨(fun _ => (To.sat (by repeat (first | exact .nil | exact .done .refl | (apply To.cons; · (repeat (first | exact .head | apply Sel.tail))) | exact .done (by repeat (first | exact .refl | apply Drop.skip)))))), ?_⟩
      refine gt_n rfl .none rfl (o_append rfl rfl (by repeat (first | exact .nil | (apply Part.cons; · (repeat (first | exact .head | apply Sel.tail))))) rfl rfl rfl (by omega) (by unfold maxLen; omega)) ?_
      rintro _ _ ⟨a96, c96, rfl, rfl⟩
      rw [flat_one]
      refine ⟨(fun hG => absurd hG (by decide)), ?_⟩
      first | refine gt_v rfl .none rfl (o_fldS rfl) ?_ | refine gt_v rfl .none rfl (o_fld rfl) ?_
      first | refine gt_u rfl .none (o_store rfl rfl rfl rfl) (fun hG => absurd hG (by decide)) ?_ | refine gt_u rfl .none (o_storeS rfl rfl rfl (by first | assumption | omega | simp)) (fun hG => absurd hG (by decide)) ?_
      refine gt_nil ?_
      refine ge_then ?_
      refine g_seq ?_
      refine g_region ?_
      first | refine gl_v rfl (o_fldS rfl) ?_ | refine gl_v rfl (o_fld rfl) ?_
      first | refine gl_v rfl (o_load rfl rfl) ?_ | refine gl_v rfl (o_loadS rfl rfl) ?_ | refine gl_v rfl (o_loadC rfl) ?_
      refine gl_v rfl (o_move rfl) ?_
      refine gl_v rfl (o_loadA (vs := [sv k.name, iv k.limit, iv k.within, Value.slice k.ca k.cases.length k.cc, Value.slice a96 (k.states.length + 1) c96]) rfl rfl rfl) ?_
      refine gl_v rfl (o_idxS rfl rfl hiL) ?_
      refine gl_u (o_storeSA (vs := [sv k.name, iv k.limit, iv k.within, Value.slice k.ca k.cases.length k.cc, Value.slice a96 (k.states.length + 1) c96]) rfl rfl rfl rfl (by rw [flat_length kndC 5 kndC_len]; simp only [List.length]; omega) (Nat.succ_pos _)) ?_
      rw [show [sv k.name, iv k.limit, iv k.within, Value.slice k.ca k.cases.length k.cc, Value.slice a96 (k.states.length + 1) c96] = kndC { k with sa := a96, sc := c96, states := k.states ++ [s] } by simp [kndC], splice_flat kndC 5 kndC_len _ KK i hiL]
      have hQ := (twice_state hR hk hs a96 c96).trans (if_neg h8)
      refine gl_nil ?_
      refine ge_then ?_
      refine g_seq ?_
      refine g_region ?_
      refine gl_v rfl (o_loadA (vs := [Value.slice a25 KK.length c25]) rfl rfl rfl) ?_
      refine gl_c rfl (o_call rfl (ep_some (prog_l (pa := a25) (pc := c25) (n := KK.length) (KK := KK.set i { k with sa := a96, sc := c96, states := k.states ++ [s] }) (by rw [List.length_set]) [own (.slice a25 KK.length c25) 41 5 KK.length ((KK.set i { k with sa := a96, sc := c96, states := k.states ++ [s] }).flatMap kndC), own (.slice a96 (k.states.length + 1) c96) 44 2 (k.states.length + 1) ((k.states ++ [s]).flatMap staC), base W] (fun h st => prgOk_set (prg_sat hA (by repeat (first | exact .head | apply Sel.tail)) st) (own_rdh (OwS.get (v := .slice a25 KK.length c25) st) (by rw [List.length_set])) (kndOk_sts ((prg_sat hA (by repeat (first | exact .head | apply Sel.tail)) st).kinds k hkm) (own_rdh (OwS.get (v := .slice a96 (k.states.length + 1) c96) st) (by simp)) (by unfold ok63; simp; omega) (fun s' hs' => (List.mem_append.1 hs').elim (((prg_sat hA (by repeat (first | exact .head | apply Sel.tail)) st).kinds k hkm).states s') (fun e => List.mem_singleton.1 e ▸ ((prg_sat hA (by repeat (first | exact .head | apply Sel.tail)) st).kinds k hkm).states s hsm))))) hQ) (by repeat (first | exact .nil | (apply Part.cons; · (repeat (first | exact .head | apply Sel.tail)))))) ?_
      rintro _ R ⟨_, ⟨b, a, cp, rfl, rfl⟩, rfl⟩
      try simp only [List.cons_append, List.nil_append]
      refine gl_v rfl (o_assign rfl) ?_
      refine gl_nil ?_
      refine ge_then ?_
      refine g_seq ?_
      refine g_region ?_
      refine gl_v rfl (o_move rfl) ?_
      refine gl_c rfl (o_call rfl (Where_bad hG b 41 a cp [((i + 1 : Nat) : Int), ((k.states.length + 1 : Nat) : Int)] (by simp)) (by repeat (first | exact .nil | (apply Part.cons; · (repeat (first | exact .head | apply Sel.tail)))))) ?_
      rintro _ R ⟨_, ⟨a3, cp3, rfl, rfl⟩, rfl⟩
      try simp only [List.cons_append, List.nil_append]
      refine gl_v rfl (o_assign rfl) ?_
      refine gl_nil ?_
      refine ge_then ?_
      refine g_seq ?_
      refine g_draw [6, 16] [] [(0, .loc), (1, .loc), (2, .loc), (3, .loc), (4, .loc), (5, .loc), (6, .eff), (7, .loc), (8, .loc), (9, .loc), (10, .loc), (11, .loc), (12, .loc), (13, .loc), (14, .loc), (15, .loc), (16, .eff), (17, .loc), (18, .loc), (19, .loc), (20, .loc), (21, .loc), (22, .loc), (23, .loc), (24, .loc), (25, .loc), (26, .loc), (27, .loc), (28, .loc), (29, .loc), (30, .loc), (31, .loc), (32, .loc), (33, .loc), (34, .loc), (35, .loc), (36, .loc), (37, .loc), (38, .loc), (39, .loc), (40, .loc), (41, .loc)] [cel b9 41 [sv k.name, iv k.limit, iv k.within, Value.slice k.ca k.cases.length k.cc, Value.slice a96 (k.states.length + 1) c96], intsA a3 cp3 [((i + 1 : Nat) : Int), ((k.states.length + 1 : Nat) : Int)]] mixed (by kernel_rfl) ?_
      first | refine go_v rfl .none rfl (o_fldS rfl) ?_ | refine go_v rfl .none rfl (o_fld rfl) ?_
      first | refine go_v rfl .none rfl (o_load rfl rfl) ?_ | refine go_v rfl .none rfl (o_loadS rfl rfl) ?_ | refine go_v rfl .none rfl (o_loadC rfl) ?_
      refine go_v rfl .none rfl (o_lenL rfl) ?_
      refine go_v rfl .none rfl (o_is (c := false) (by first | rfl | exact decide_eq_false (by omega) | (simp only [List.length]; exact decide_eq_false (by omega))) (o_eql rfl rfl)) ?_
      refine go_v rfl .none rfl (o_move rfl) ?_
      refine go_skip rfl (.no rfl rfl rfl) rfl ?_
      refine go_skip rfl (.no rfl rfl rfl) rfl ?_
      refine go_skip rfl (.no rfl rfl rfl) rfl ?_
      refine go_v rfl .none rfl (o_pickF rfl rfl rfl) ?_
      refine go_v rfl .none rfl (o_move rfl) ?_
      refine go_skip rfl (.no rfl rfl rfl) rfl ?_
      refine go_skip rfl (.no rfl rfl rfl) rfl ?_
      refine go_skip rfl (.no rfl rfl rfl) rfl ?_
      refine go_v rfl .none rfl (o_pickF rfl rfl rfl) ?_
      refine go_v rfl .none rfl (o_move rfl) ?_
      refine go_v rfl (.yes rfl rfl rfl) rfl (o_move rfl) ?_
      refine go_c rfl (.yes rfl rfl rfl) rfl (o_call rfl (Code_bad hG b 2 41 a cp) (by repeat (first | exact .nil | (apply Part.cons; · (repeat (first | exact .head | apply Sel.tail)))))) ?_
      rintro _ R ⟨_, ⟨rfl, rfl⟩, rfl⟩
      try simp only [List.cons_append, List.nil_append]
      refine ⟨(fun hG => absurd hG (by decide)), ?_⟩
      refine go_v rfl (.yes rfl rfl rfl) rfl (o_is (c := true) (by first | rfl | exact decide_eq_true (by omega) | (simp only [List.length]; exact decide_eq_true (by omega))) (o_eql rfl rfl)) ?_
      refine go_v rfl (.yes rfl rfl rfl) rfl (o_move rfl) ?_
      refine go_v rfl (.yes rfl rfl rfl) rfl (o_move rfl) ?_
      refine go_v rfl (.yes rfl rfl rfl) rfl (o_lenL rfl) ?_
      refine go_v rfl (.yes rfl rfl rfl) rfl (o_is (c := true) (by first | rfl | exact decide_eq_true (by omega) | (simp only [List.length]; exact decide_eq_true (by omega))) (o_eql rfl rfl)) ?_
      refine go_v rfl (.yes rfl rfl rfl) rfl (o_pickT rfl rfl rfl) ?_
      refine go_v rfl (.yes rfl rfl rfl) rfl (o_move rfl) ?_
      refine go_v rfl (.yes rfl rfl rfl) rfl (o_move rfl) ?_
      refine go_v rfl (.yes rfl rfl rfl) rfl (o_idxS rfl rfl (by simp)) ?_
      refine go_v rfl (.yes rfl rfl rfl) rfl (o_loadS rfl rfl) ?_
      refine go_v rfl (.yes rfl rfl rfl) rfl (o_move rfl) ?_
      refine go_v rfl (.yes rfl rfl rfl) rfl (o_addR ((i + 1 : Nat) : Int) (by rw [wr_i64 (by omega)]; omega) rfl rfl) ?_
      refine go_v rfl (.yes rfl rfl rfl) rfl (o_is (c := true) (by first | rfl | exact decide_eq_true (by omega) | (simp only [List.length]; exact decide_eq_true (by omega))) (o_eql rfl rfl)) ?_
      refine go_v rfl (.yes rfl rfl rfl) rfl (o_pickT rfl rfl rfl) ?_
      refine go_v rfl (.yes rfl rfl rfl) rfl (o_move rfl) ?_
      refine go_v rfl (.yes rfl rfl rfl) rfl (o_move rfl) ?_
      refine go_v rfl (.yes rfl rfl rfl) rfl (o_idxS rfl rfl (by simp)) ?_
      refine go_v rfl (.yes rfl rfl rfl) rfl (o_loadS rfl rfl) ?_
      first | refine go_v rfl (.yes rfl rfl rfl) rfl (o_fldS rfl) ?_ | refine go_v rfl (.yes rfl rfl rfl) rfl (o_fld rfl) ?_
      first | refine go_v rfl (.yes rfl rfl rfl) rfl (o_load rfl rfl) ?_ | refine go_v rfl (.yes rfl rfl rfl) rfl (o_loadS rfl rfl) ?_ | refine go_v rfl (.yes rfl rfl rfl) rfl (o_loadC rfl) ?_
      refine go_v rfl (.yes rfl rfl rfl) rfl (o_lenL rfl) ?_
      refine go_v rfl (.yes rfl rfl rfl) rfl (o_is (c := true) (by first | rfl | exact decide_eq_true (by omega) | (simp only [List.length]; exact decide_eq_true (by omega))) (o_eql rfl rfl)) ?_
      refine go_v rfl (.yes rfl rfl rfl) rfl (o_pickT rfl rfl rfl) ?_
      refine go_v rfl .none rfl (o_pickF rfl rfl rfl) ?_
      refine go_v rfl .none rfl (o_assign rfl) ?_
      refine go_nil ?_
      refine ge_then ?_
      refine g_ret ?_
      refine ge_block_ret ?_
      refine ge_then_ret ?_
      refine ret1 (.inl rfl) rfl rfl [base W] (⟨rfl, rfl⟩) (To.sat (by repeat (first | exact .nil | exact .done .refl | (apply To.cons; · (repeat (first | exact .head | apply Sel.tail))) | exact .done (by repeat (first | exact .refl | apply Drop.skip)))))
  ·
    refine gt_n rfl .none rfl (o_buildS1A (vs := staC s) rfl rfl rfl rfl) ?_
    rintro _ _ ⟨b95, rfl, rfl⟩
    refine ⟨(fun _ => (To.sat (by repeat (first | exact .nil | exact .done .refl | (apply To.cons; · (repeat (first | exact .head | apply Sel.tail))) | exact .done (by repeat (first | exact .refl | apply Drop.skip)))))), ?_⟩
    refine gt_n rfl .none rfl (o_buildS0) ?_
    rintro _ _ ⟨b87, rfl, rfl⟩
    refine ⟨(fun _ => (To.sat (by repeat (first | exact .nil | exact .done .refl | (apply To.cons; · (repeat (first | exact .head | apply Sel.tail))) | exact .done (by repeat (first | exact .refl | apply Drop.skip)))))), ?_⟩
    refine gt_n rfl .none rfl (o_appendS rfl rfl (by repeat (first | exact .head | apply Sel.tail)) rfl (flat_length staC 2 staC_len k.states) (all_one (fun _ => rfl) k.states) (by omega) (by unfold maxLen; omega)) ?_
    rintro _ _ ⟨a90, c90, rfl, rfl⟩
    simp only [Nat.zero_add, List.nil_append]
    refine ⟨(fun _ => (To.sat (by repeat (first | exact .nil | exact .done .refl | (apply To.cons; · (repeat (first | exact .head | apply Sel.tail))) | exact .done (by repeat (first | exact .refl | apply Drop.skip)))))), ?_⟩
    refine gt_n rfl .none rfl (o_append rfl rfl (by repeat (first | exact .nil | (apply Part.cons; · (repeat (first | exact .head | apply Sel.tail))))) rfl rfl rfl (by omega) (by unfold maxLen; omega)) ?_
    rintro _ _ ⟨a96, c96, rfl, rfl⟩
    rw [flat_one]
    refine ⟨(fun hG => absurd hG (by decide)), ?_⟩
    first | refine gt_v rfl .none rfl (o_fldS rfl) ?_ | refine gt_v rfl .none rfl (o_fld rfl) ?_
    first | refine gt_u rfl .none (o_store rfl rfl rfl rfl) (fun hG => absurd hG (by decide)) ?_ | refine gt_u rfl .none (o_storeS rfl rfl rfl (by first | assumption | omega | simp)) (fun hG => absurd hG (by decide)) ?_
    refine gt_nil ?_
    refine ge_then ?_
    refine g_seq ?_
    refine g_region ?_
    first | refine gl_v rfl (o_fldS rfl) ?_ | refine gl_v rfl (o_fld rfl) ?_
    first | refine gl_v rfl (o_load rfl rfl) ?_ | refine gl_v rfl (o_loadS rfl rfl) ?_ | refine gl_v rfl (o_loadC rfl) ?_
    refine gl_v rfl (o_move rfl) ?_
    refine gl_v rfl (o_loadA (vs := [sv k.name, iv k.limit, iv k.within, Value.slice k.ca k.cases.length k.cc, Value.slice a96 (k.states.length + 1) c96]) rfl rfl rfl) ?_
    refine gl_v rfl (o_idxS rfl rfl hiL) ?_
    refine gl_u (o_storeSA (vs := [sv k.name, iv k.limit, iv k.within, Value.slice k.ca k.cases.length k.cc, Value.slice a96 (k.states.length + 1) c96]) rfl rfl rfl rfl (by rw [flat_length kndC 5 kndC_len]; simp only [List.length]; omega) (Nat.succ_pos _)) ?_
    rw [show [sv k.name, iv k.limit, iv k.within, Value.slice k.ca k.cases.length k.cc, Value.slice a96 (k.states.length + 1) c96] = kndC { k with sa := a96, sc := c96, states := k.states ++ [s] } by simp [kndC], splice_flat kndC 5 kndC_len _ KK i hiL]
    have hQ := (twice_state hR hk hs a96 c96).trans (if_neg h8)
    refine gl_nil ?_
    refine ge_then ?_
    refine g_seq ?_
    refine g_region ?_
    refine gl_v rfl (o_loadA (vs := [Value.slice a25 KK.length c25]) rfl rfl rfl) ?_
    refine gl_c rfl (o_call rfl (ep_some (prog_l (pa := a25) (pc := c25) (n := KK.length) (KK := KK.set i { k with sa := a96, sc := c96, states := k.states ++ [s] }) (by rw [List.length_set]) [own (.slice a25 KK.length c25) 41 5 KK.length ((KK.set i { k with sa := a96, sc := c96, states := k.states ++ [s] }).flatMap kndC), own (.slice a96 (k.states.length + 1) c96) 44 2 (k.states.length + 1) ((k.states ++ [s]).flatMap staC), base W] (fun h st => prgOk_set (prg_sat hA (by repeat (first | exact .head | apply Sel.tail)) st) (own_rdh (OwS.get (v := .slice a25 KK.length c25) st) (by rw [List.length_set])) (kndOk_sts ((prg_sat hA (by repeat (first | exact .head | apply Sel.tail)) st).kinds k hkm) (own_rdh (OwS.get (v := .slice a96 (k.states.length + 1) c96) st) (by simp)) (by unfold ok63; simp; omega) (fun s' hs' => (List.mem_append.1 hs').elim (((prg_sat hA (by repeat (first | exact .head | apply Sel.tail)) st).kinds k hkm).states s') (fun e => List.mem_singleton.1 e ▸ ((prg_sat hA (by repeat (first | exact .head | apply Sel.tail)) st).kinds k hkm).states s hsm))))) hQ) (by repeat (first | exact .nil | (apply Part.cons; · (repeat (first | exact .head | apply Sel.tail)))))) ?_
    rintro _ R ⟨_, ⟨b, a, cp, rfl, rfl⟩, rfl⟩
    try simp only [List.cons_append, List.nil_append]
    refine gl_v rfl (o_assign rfl) ?_
    refine gl_nil ?_
    refine ge_then ?_
    refine g_seq ?_
    refine g_region ?_
    refine gl_v rfl (o_move rfl) ?_
    refine gl_c rfl (o_call rfl (Where_bad hG b 41 a cp [((i + 1 : Nat) : Int), ((k.states.length + 1 : Nat) : Int)] (by simp)) (by repeat (first | exact .nil | (apply Part.cons; · (repeat (first | exact .head | apply Sel.tail)))))) ?_
    rintro _ R ⟨_, ⟨a3, cp3, rfl, rfl⟩, rfl⟩
    try simp only [List.cons_append, List.nil_append]
    refine gl_v rfl (o_assign rfl) ?_
    refine gl_nil ?_
    refine ge_then ?_
    refine g_seq ?_
    refine g_draw [6, 16] [] [(0, .loc), (1, .loc), (2, .loc), (3, .loc), (4, .loc), (5, .loc), (6, .eff), (7, .loc), (8, .loc), (9, .loc), (10, .loc), (11, .loc), (12, .loc), (13, .loc), (14, .loc), (15, .loc), (16, .eff), (17, .loc), (18, .loc), (19, .loc), (20, .loc), (21, .loc), (22, .loc), (23, .loc), (24, .loc), (25, .loc), (26, .loc), (27, .loc), (28, .loc), (29, .loc), (30, .loc), (31, .loc), (32, .loc), (33, .loc), (34, .loc), (35, .loc), (36, .loc), (37, .loc), (38, .loc), (39, .loc), (40, .loc), (41, .loc)] [cel b9 41 [sv k.name, iv k.limit, iv k.within, Value.slice k.ca k.cases.length k.cc, Value.slice a96 (k.states.length + 1) c96], intsA a3 cp3 [((i + 1 : Nat) : Int), ((k.states.length + 1 : Nat) : Int)]] mixed (by kernel_rfl) ?_
    first | refine go_v rfl .none rfl (o_fldS rfl) ?_ | refine go_v rfl .none rfl (o_fld rfl) ?_
    first | refine go_v rfl .none rfl (o_load rfl rfl) ?_ | refine go_v rfl .none rfl (o_loadS rfl rfl) ?_ | refine go_v rfl .none rfl (o_loadC rfl) ?_
    refine go_v rfl .none rfl (o_lenL rfl) ?_
    refine go_v rfl .none rfl (o_is (c := false) (by first | rfl | exact decide_eq_false (by omega) | (simp only [List.length]; exact decide_eq_false (by omega))) (o_eql rfl rfl)) ?_
    refine go_v rfl .none rfl (o_move rfl) ?_
    refine go_skip rfl (.no rfl rfl rfl) rfl ?_
    refine go_skip rfl (.no rfl rfl rfl) rfl ?_
    refine go_skip rfl (.no rfl rfl rfl) rfl ?_
    refine go_v rfl .none rfl (o_pickF rfl rfl rfl) ?_
    refine go_v rfl .none rfl (o_move rfl) ?_
    refine go_skip rfl (.no rfl rfl rfl) rfl ?_
    refine go_skip rfl (.no rfl rfl rfl) rfl ?_
    refine go_skip rfl (.no rfl rfl rfl) rfl ?_
    refine go_v rfl .none rfl (o_pickF rfl rfl rfl) ?_
    refine go_v rfl .none rfl (o_move rfl) ?_
    refine go_v rfl (.yes rfl rfl rfl) rfl (o_move rfl) ?_
    refine go_c rfl (.yes rfl rfl rfl) rfl (o_call rfl (Code_bad hG b 2 41 a cp) (by repeat (first | exact .nil | (apply Part.cons; · (repeat (first | exact .head | apply Sel.tail)))))) ?_
    rintro _ R ⟨_, ⟨rfl, rfl⟩, rfl⟩
    try simp only [List.cons_append, List.nil_append]
    refine ⟨(fun hG => absurd hG (by decide)), ?_⟩
    refine go_v rfl (.yes rfl rfl rfl) rfl (o_is (c := true) (by first | rfl | exact decide_eq_true (by omega) | (simp only [List.length]; exact decide_eq_true (by omega))) (o_eql rfl rfl)) ?_
    refine go_v rfl (.yes rfl rfl rfl) rfl (o_move rfl) ?_
    refine go_v rfl (.yes rfl rfl rfl) rfl (o_move rfl) ?_
    refine go_v rfl (.yes rfl rfl rfl) rfl (o_lenL rfl) ?_
    refine go_v rfl (.yes rfl rfl rfl) rfl (o_is (c := true) (by first | rfl | exact decide_eq_true (by omega) | (simp only [List.length]; exact decide_eq_true (by omega))) (o_eql rfl rfl)) ?_
    refine go_v rfl (.yes rfl rfl rfl) rfl (o_pickT rfl rfl rfl) ?_
    refine go_v rfl (.yes rfl rfl rfl) rfl (o_move rfl) ?_
    refine go_v rfl (.yes rfl rfl rfl) rfl (o_move rfl) ?_
    refine go_v rfl (.yes rfl rfl rfl) rfl (o_idxS rfl rfl (by simp)) ?_
    refine go_v rfl (.yes rfl rfl rfl) rfl (o_loadS rfl rfl) ?_
    refine go_v rfl (.yes rfl rfl rfl) rfl (o_move rfl) ?_
    refine go_v rfl (.yes rfl rfl rfl) rfl (o_addR ((i + 1 : Nat) : Int) (by rw [wr_i64 (by omega)]; omega) rfl rfl) ?_
    refine go_v rfl (.yes rfl rfl rfl) rfl (o_is (c := true) (by first | rfl | exact decide_eq_true (by omega) | (simp only [List.length]; exact decide_eq_true (by omega))) (o_eql rfl rfl)) ?_
    refine go_v rfl (.yes rfl rfl rfl) rfl (o_pickT rfl rfl rfl) ?_
    refine go_v rfl (.yes rfl rfl rfl) rfl (o_move rfl) ?_
    refine go_v rfl (.yes rfl rfl rfl) rfl (o_move rfl) ?_
    refine go_v rfl (.yes rfl rfl rfl) rfl (o_idxS rfl rfl (by simp)) ?_
    refine go_v rfl (.yes rfl rfl rfl) rfl (o_loadS rfl rfl) ?_
    first | refine go_v rfl (.yes rfl rfl rfl) rfl (o_fldS rfl) ?_ | refine go_v rfl (.yes rfl rfl rfl) rfl (o_fld rfl) ?_
    first | refine go_v rfl (.yes rfl rfl rfl) rfl (o_load rfl rfl) ?_ | refine go_v rfl (.yes rfl rfl rfl) rfl (o_loadS rfl rfl) ?_ | refine go_v rfl (.yes rfl rfl rfl) rfl (o_loadC rfl) ?_
    refine go_v rfl (.yes rfl rfl rfl) rfl (o_lenL rfl) ?_
    refine go_v rfl (.yes rfl rfl rfl) rfl (o_is (c := true) (by first | rfl | exact decide_eq_true (by omega) | (simp only [List.length]; exact decide_eq_true (by omega))) (o_eql rfl rfl)) ?_
    refine go_v rfl (.yes rfl rfl rfl) rfl (o_pickT rfl rfl rfl) ?_
    refine go_v rfl .none rfl (o_pickF rfl rfl rfl) ?_
    refine go_v rfl .none rfl (o_assign rfl) ?_
    refine go_nil ?_
    refine ge_then ?_
    refine g_ret ?_
    refine ge_block_ret ?_
    refine ge_then_ret ?_
    refine ret1 (.inl rfl) rfl rfl [base W] (⟨rfl, rfl⟩) (To.sat (by repeat (first | exact .nil | exact .done .refl | (apply To.cons; · (repeat (first | exact .head | apply Sel.tail))) | exact .done (by repeat (first | exact .refl | apply Drop.skip)))))

set_option maxRecDepth 8000 in
set_option maxHeartbeats 4000000 in
theorem CheckTwice_2z {W : World} (hG : Gok W) (pa : Option Addr) (pc : Nat) (KK : List Knd) (hA : ∀ h, base W h → PrgOk h pa pc KK) (w : Nat) (hw : w ≤ 255) (lv : Nat) (hlv : lv ≤ 255) (hR : prgF KK = none) (hL : 1 ≤ KK.length ∧ KK.length ≤ 8) (i : Nat) (hi : w % KK.length = i) (k : Knd) (hk : KK[i]? = some k) (s : Sta) (hs : k.states[0]? = some s) (hv : lv % 3 = 2) (h0 : s.rows.length = 0) : FnS Tryd.prog 5 [.agg #[.slice pa KK.length pc], .int .u8 (w : Int), .int .u8 (lv : Int)] [base W] (fun u Bs => u = .bool true ∧ Bs = [base W]) := by
  refine fn_body Tryd.func5 rfl rfl rfl ?_
  intro W0 R
  simp only [List.zipIdx_cons, List.zipIdx_nil, List.map_cons, List.map_nil, Nat.zero_add, Nat.reduceAdd, List.cons_append, List.nil_append]
  obtain ⟨hb, hwb⟩ : ∃ h, base W h := ⟨hpOf W, fun _ _ => rfl⟩
  have hb0 := hA _ hwb
  have hKn := hb0.len; have hKc := hb0.rd.2
  haveI rK : RdA (.slice pa KK.length pc) (base W) KK.length (KK.flatMap kndC) := ⟨fun h => (hA _ h).rd.1⟩
  unfold ok63 at hKn
  have hiL := (List.getElem?_eq_some_iff.1 hk).1
  have hkm := List.mem_of_getElem? hk
  have hkO := hb0.kinds k hkm
  have hSn := hkO.lens; have hSc := hkO.rds.2; have hCn := hkO.lenc
  haveI rS : RdA (.slice k.sa k.states.length k.sc) (base W) k.states.length (k.states.flatMap staC) := ⟨fun h => ((hA _ h).kinds k hkm).rds.1⟩
  unfold ok63 at hSn hCn
  obtain ⟨⟨_, _, _, _, hC8, hS1, hS8⟩, hst⟩ := kind_facts hR hk
  have hR16 : s.rows.length ≤ 16 := by
    have := (staE_zero.1 ((staF_none hs).1 (hst 0 (by omega))).1).2.2
    simp at this; omega
  have hjL := (List.getElem?_eq_some_iff.1 hs).1
  have hsm := List.mem_of_getElem? hs
  have hsO := hkO.states s hsm
  have hRn := hsO.len
  haveI rR : RdA (.slice s.ra s.rows.length s.rc) (base W) s.rows.length (s.rows.flatMap rowC) := ⟨fun h => (((hA _ h).kinds k hkm).states s hsm).rd.1⟩
  unfold ok63 at hRn
  
  refine g_seq ?_
  refine g_region ?_
  refine gl_n rfl (o_boxA rfl) ?_
  rintro _ _ ⟨b3, rfl, rfl⟩
  refine gl_v rfl (o_assign rfl) ?_
  refine gl_nil ?_
  refine ge_then ?_
  refine g_seq ?_
  refine g_seq ?_
  refine g_region ?_
  refine gl_c rfl (o_call rfl (alive_spec hG) (by repeat (first | exact .nil | (apply Part.cons; · (repeat (first | exact .head | apply Sel.tail)))))) ?_
  rintro _ R ⟨_, ⟨rfl, rfl⟩, rfl⟩
  try simp only [List.cons_append, List.nil_append]
  refine gl_v rfl (o_is (c := false) (by rfl) (o_not rfl)) ?_
  refine gl_nil ?_
  refine ge_then ?_
  refine g_cond_false rfl ?_
  refine g_skip ?_
  refine ge_then ?_
  refine g_seq ?_
  refine g_seq ?_
  refine g_region ?_
  first | refine gl_v rfl (o_loadSA rfl rfl rfl) ?_ | refine gl_v rfl (o_loadA rfl rfl rfl) ?_
  refine gl_c rfl (o_call rfl (ep_none (prog' pa pc KK (base W) hA) hR) (by repeat (first | exact .nil | (apply Part.cons; · (repeat (first | exact .head | apply Sel.tail)))))) ?_
  rintro _ R ⟨_, ⟨rfl, rfl⟩, rfl⟩
  try simp only [List.cons_append, List.nil_append]
  refine gl_v rfl (o_neqnI rfl) ?_
  refine gl_nil ?_
  refine ge_then ?_
  refine g_cond_false rfl ?_
  refine g_skip ?_
  refine ge_then ?_
  refine g_seq ?_
  refine g_region ?_
  refine gl_n rfl (o_buildS0) ?_
  rintro _ _ ⟨b22, rfl, rfl⟩
  first | refine gl_v rfl (o_fldS rfl) ?_ | refine gl_v rfl (o_fld rfl) ?_
  first | refine gl_v rfl (o_load rfl rfl) ?_ | refine gl_v rfl (o_loadS rfl rfl) ?_ | refine gl_v rfl (o_loadC rfl) ?_
  refine gl_n rfl (o_appendS rfl rfl (by repeat (first | exact .head | apply Sel.tail)) rfl (flat_length kndC 5 kndC_len KK) (all_one (fun _ => rfl) KK) (by omega) (by unfold maxLen; omega)) ?_
  rintro _ _ ⟨a25, c25, rfl, rfl⟩
  simp only [Nat.zero_add, List.nil_append]
  refine gl_v rfl (o_build rfl rfl) ?_
  refine gl_n rfl (o_alloc) ?_
  rintro _ _ ⟨b7, rfl, rfl⟩
  first | refine gl_u (o_storeSA rfl rfl rfl rfl (by simp; omega) (by simp)) ?_ | refine gl_u (o_storeA rfl rfl rfl rfl rfl) ?_
  refine gl_nil ?_
  refine ge_then ?_
  refine g_seq ?_
  refine g_region ?_
  refine gl_v rfl (o_move rfl) ?_
  refine gl_v rfl (o_convR ((w : Nat) : Int) (wr_i64 (by omega)) rfl) ?_
  first | refine gl_v rfl (o_fldS rfl) ?_ | refine gl_v rfl (o_fld rfl) ?_
  first | refine gl_v rfl (o_load rfl rfl) ?_ | refine gl_v rfl (o_loadS rfl rfl) ?_ | refine gl_v rfl (o_loadC rfl) ?_
  refine gl_v rfl (o_lenL rfl) ?_
  refine gl_v rfl (o_remR ((i : Nat) : Int) (by rw [tmodn, hi]) rfl rfl (by omega)) ?_
  refine gl_v rfl (o_assign rfl) ?_
  refine gl_nil ?_
  refine ge_then ?_
  refine g_seq ?_
  refine g_region ?_
  first | refine gl_v rfl (o_fldS rfl) ?_ | refine gl_v rfl (o_fld rfl) ?_
  first | refine gl_v rfl (o_load rfl rfl) ?_ | refine gl_v rfl (o_loadS rfl rfl) ?_ | refine gl_v rfl (o_loadC rfl) ?_
  refine gl_v rfl (o_move rfl) ?_
  refine gl_v rfl (o_idxS rfl rfl hiL) ?_
  refine gl_v rfl (o_loadSA rfl (flat_take kndC 5 kndC_len hk) rfl) ?_
  refine gl_n rfl (o_alloc) ?_
  rintro _ _ ⟨b9, rfl, rfl⟩
  first | refine gl_u (o_storeSA rfl rfl rfl rfl (by simp; omega) (by simp)) ?_ | refine gl_u (o_storeA rfl rfl rfl rfl rfl) ?_
  refine gl_nil ?_
  refine ge_then ?_
  refine g_seq ?_
  refine g_seq ?_
  refine g_region ?_
  refine gl_v rfl (o_move rfl) ?_
  refine gl_v rfl (o_remR (2) (by rw [show (3 : Int) = ((3 : Nat) : Int) from rfl, tmodn, hv]; rfl) rfl rfl (by decide)) ?_
  refine gl_nil ?_
  refine ge_then ?_
  refine g_block ?_
  refine g_seq ?_
  refine g_region ?_
  refine gl_v rfl (o_is (c := false) (by rfl) (o_eql rfl rfl)) ?_
  refine gl_v rfl (o_assign rfl) ?_
  refine gl_nil ?_
  refine ge_then ?_
  refine g_cond_false rfl ?_
  refine g_seq ?_
  refine g_region ?_
  refine gl_v rfl (o_is (c := false) (by rfl) (o_eql rfl rfl)) ?_
  refine gl_v rfl (o_assign rfl) ?_
  refine gl_nil ?_
  refine ge_then ?_
  refine g_cond_false rfl ?_
  refine g_skip ?_
  refine ge_block ?_
  refine ge_then ?_
  refine g_seq ?_
  refine g_region ?_
  first | refine gl_v rfl (o_fldS rfl) ?_ | refine gl_v rfl (o_fld rfl) ?_
  first | refine gl_v rfl (o_load rfl rfl) ?_ | refine gl_v rfl (o_loadS rfl rfl) ?_ | refine gl_v rfl (o_loadC rfl) ?_
  refine gl_v rfl (o_idxS rfl rfl (show 0 < k.states.length by omega)) ?_
  refine gl_v rfl (o_loadSA (vs := staC s) rfl (flat_take staC 2 staC_len hs) rfl) ?_
  refine gl_n rfl (o_alloc) ?_
  rintro _ _ ⟨b14, rfl, rfl⟩
  first | refine gl_u (o_storeSA rfl rfl rfl rfl (by simp; omega) (by simp)) ?_ | refine gl_u (o_storeA rfl rfl rfl rfl rfl) ?_
  refine gl_nil ?_
  refine ge_then ?_
  refine g_seq ?_
  refine g_seq ?_
  refine g_region ?_
  first | refine gl_v rfl (o_fldS rfl) ?_ | refine gl_v rfl (o_fld rfl) ?_
  first | refine gl_v rfl (o_load rfl rfl) ?_ | refine gl_v rfl (o_loadS rfl rfl) ?_ | refine gl_v rfl (o_loadC rfl) ?_
  refine gl_v rfl (o_lenL rfl) ?_
  refine gl_v rfl (o_is (c := true) (by first | rfl | exact decide_eq_true (by omega) | (simp only [List.length]; exact decide_eq_true (by omega))) (o_eql rfl rfl)) ?_
  refine gl_nil ?_
  refine ge_then ?_
  refine g_cond_true rfl ?_
  refine g_seq ?_
  refine g_region ?_
  refine gl_v rfl (o_assign rfl) ?_
  refine gl_nil ?_
  refine ge_then ?_
  refine g_ret ?_
  refine ge_then_ret ?_
  refine ret1 (.inl rfl) rfl rfl [base W] (⟨rfl, rfl⟩) (To.sat (by repeat (first | exact .nil | exact .done .refl | (apply To.cons; · (repeat (first | exact .head | apply Sel.tail))) | exact .done (by repeat (first | exact .refl | apply Drop.skip)))))

set_option maxRecDepth 8000 in
set_option maxHeartbeats 4000000 in
theorem CheckTwice_2a {W : World} (hG : Gok W) (pa : Option Addr) (pc : Nat) (KK : List Knd) (hA : ∀ h, base W h → PrgOk h pa pc KK) (w : Nat) (hw : w ≤ 255) (lv : Nat) (hlv : lv ≤ 255) (hR : prgF KK = none) (hL : 1 ≤ KK.length ∧ KK.length ≤ 8) (i : Nat) (hi : w % KK.length = i) (k : Knd) (hk : KK[i]? = some k) (s : Sta) (hs : k.states[0]? = some s) (hv : lv % 3 = 2) (S : List Sta) (hS : k.states = s :: S) (r : Row) (hr : s.rows[0]? = some r) (h16 : s.rows.length = 16) : FnS Tryd.prog 5 [.agg #[.slice pa KK.length pc], .int .u8 (w : Int), .int .u8 (lv : Int)] [base W] (fun u Bs => u = .bool true ∧ Bs = [base W]) := by
  refine fn_body Tryd.func5 rfl rfl rfl ?_
  intro W0 R
  simp only [List.zipIdx_cons, List.zipIdx_nil, List.map_cons, List.map_nil, Nat.zero_add, Nat.reduceAdd, List.cons_append, List.nil_append]
  obtain ⟨hb, hwb⟩ : ∃ h, base W h := ⟨hpOf W, fun _ _ => rfl⟩
  have hb0 := hA _ hwb
  have hKn := hb0.len; have hKc := hb0.rd.2
  haveI rK : RdA (.slice pa KK.length pc) (base W) KK.length (KK.flatMap kndC) := ⟨fun h => (hA _ h).rd.1⟩
  unfold ok63 at hKn
  have hiL := (List.getElem?_eq_some_iff.1 hk).1
  have hkm := List.mem_of_getElem? hk
  have hkO := hb0.kinds k hkm
  have hSn := hkO.lens; have hSc := hkO.rds.2; have hCn := hkO.lenc
  haveI rS : RdA (.slice k.sa k.states.length k.sc) (base W) k.states.length (k.states.flatMap staC) := ⟨fun h => ((hA _ h).kinds k hkm).rds.1⟩
  unfold ok63 at hSn hCn
  obtain ⟨⟨_, _, _, _, hC8, hS1, hS8⟩, hst⟩ := kind_facts hR hk
  have hR16 : s.rows.length ≤ 16 := by
    have := (staE_zero.1 ((staF_none hs).1 (hst 0 (by omega))).1).2.2
    simp at this; omega
  have hjL := (List.getElem?_eq_some_iff.1 hs).1
  have hsm := List.mem_of_getElem? hs
  have hsO := hkO.states s hsm
  have hRn := hsO.len
  haveI rR : RdA (.slice s.ra s.rows.length s.rc) (base W) s.rows.length (s.rows.flatMap rowC) := ⟨fun h => (((hA _ h).kinds k hkm).states s hsm).rd.1⟩
  unfold ok63 at hRn
  haveI rT : RdA (.slice (if k.sc = 1 then k.sa else k.sa.map (fun x : Addr => x.add (1 * 2))) (k.states.length - 1) (k.sc - 1)) (base W) (k.states.length - 1) (S.flatMap staC) := ⟨fun h => by
    have := SlR.from' (sz := 2) (i := 1) ((hA _ h).kinds k hkm).rds.1 (flat_length staC 2 staC_len k.states) (by omega) hSc
    rwa [flat_drop staC 2 staC_len k.states 1, show k.states.drop 1 = S by rw [hS]; rfl] at this⟩
  have hSl : k.states.length = S.length + 1 := by rw [hS]; rfl
  have hr0 := (List.getElem?_eq_some_iff.1 hr).1
  
  refine g_seq ?_
  refine g_region ?_
  refine gl_n rfl (o_boxA rfl) ?_
  rintro _ _ ⟨b3, rfl, rfl⟩
  refine gl_v rfl (o_assign rfl) ?_
  refine gl_nil ?_
  refine ge_then ?_
  refine g_seq ?_
  refine g_seq ?_
  refine g_region ?_
  refine gl_c rfl (o_call rfl (alive_spec hG) (by repeat (first | exact .nil | (apply Part.cons; · (repeat (first | exact .head | apply Sel.tail)))))) ?_
  rintro _ R ⟨_, ⟨rfl, rfl⟩, rfl⟩
  try simp only [List.cons_append, List.nil_append]
  refine gl_v rfl (o_is (c := false) (by rfl) (o_not rfl)) ?_
  refine gl_nil ?_
  refine ge_then ?_
  refine g_cond_false rfl ?_
  refine g_skip ?_
  refine ge_then ?_
  refine g_seq ?_
  refine g_seq ?_
  refine g_region ?_
  first | refine gl_v rfl (o_loadSA rfl rfl rfl) ?_ | refine gl_v rfl (o_loadA rfl rfl rfl) ?_
  refine gl_c rfl (o_call rfl (ep_none (prog' pa pc KK (base W) hA) hR) (by repeat (first | exact .nil | (apply Part.cons; · (repeat (first | exact .head | apply Sel.tail)))))) ?_
  rintro _ R ⟨_, ⟨rfl, rfl⟩, rfl⟩
  try simp only [List.cons_append, List.nil_append]
  refine gl_v rfl (o_neqnI rfl) ?_
  refine gl_nil ?_
  refine ge_then ?_
  refine g_cond_false rfl ?_
  refine g_skip ?_
  refine ge_then ?_
  refine g_seq ?_
  refine g_region ?_
  refine gl_n rfl (o_buildS0) ?_
  rintro _ _ ⟨b22, rfl, rfl⟩
  first | refine gl_v rfl (o_fldS rfl) ?_ | refine gl_v rfl (o_fld rfl) ?_
  first | refine gl_v rfl (o_load rfl rfl) ?_ | refine gl_v rfl (o_loadS rfl rfl) ?_ | refine gl_v rfl (o_loadC rfl) ?_
  refine gl_n rfl (o_appendS rfl rfl (by repeat (first | exact .head | apply Sel.tail)) rfl (flat_length kndC 5 kndC_len KK) (all_one (fun _ => rfl) KK) (by omega) (by unfold maxLen; omega)) ?_
  rintro _ _ ⟨a25, c25, rfl, rfl⟩
  simp only [Nat.zero_add, List.nil_append]
  refine gl_v rfl (o_build rfl rfl) ?_
  refine gl_n rfl (o_alloc) ?_
  rintro _ _ ⟨b7, rfl, rfl⟩
  first | refine gl_u (o_storeSA rfl rfl rfl rfl (by simp; omega) (by simp)) ?_ | refine gl_u (o_storeA rfl rfl rfl rfl rfl) ?_
  refine gl_nil ?_
  refine ge_then ?_
  refine g_seq ?_
  refine g_region ?_
  refine gl_v rfl (o_move rfl) ?_
  refine gl_v rfl (o_convR ((w : Nat) : Int) (wr_i64 (by omega)) rfl) ?_
  first | refine gl_v rfl (o_fldS rfl) ?_ | refine gl_v rfl (o_fld rfl) ?_
  first | refine gl_v rfl (o_load rfl rfl) ?_ | refine gl_v rfl (o_loadS rfl rfl) ?_ | refine gl_v rfl (o_loadC rfl) ?_
  refine gl_v rfl (o_lenL rfl) ?_
  refine gl_v rfl (o_remR ((i : Nat) : Int) (by rw [tmodn, hi]) rfl rfl (by omega)) ?_
  refine gl_v rfl (o_assign rfl) ?_
  refine gl_nil ?_
  refine ge_then ?_
  refine g_seq ?_
  refine g_region ?_
  first | refine gl_v rfl (o_fldS rfl) ?_ | refine gl_v rfl (o_fld rfl) ?_
  first | refine gl_v rfl (o_load rfl rfl) ?_ | refine gl_v rfl (o_loadS rfl rfl) ?_ | refine gl_v rfl (o_loadC rfl) ?_
  refine gl_v rfl (o_move rfl) ?_
  refine gl_v rfl (o_idxS rfl rfl hiL) ?_
  refine gl_v rfl (o_loadSA rfl (flat_take kndC 5 kndC_len hk) rfl) ?_
  refine gl_n rfl (o_alloc) ?_
  rintro _ _ ⟨b9, rfl, rfl⟩
  first | refine gl_u (o_storeSA rfl rfl rfl rfl (by simp; omega) (by simp)) ?_ | refine gl_u (o_storeA rfl rfl rfl rfl rfl) ?_
  refine gl_nil ?_
  refine ge_then ?_
  refine g_seq ?_
  refine g_seq ?_
  refine g_region ?_
  refine gl_v rfl (o_move rfl) ?_
  refine gl_v rfl (o_remR (2) (by rw [show (3 : Int) = ((3 : Nat) : Int) from rfl, tmodn, hv]; rfl) rfl rfl (by decide)) ?_
  refine gl_nil ?_
  refine ge_then ?_
  refine g_block ?_
  refine g_seq ?_
  refine g_region ?_
  refine gl_v rfl (o_is (c := false) (by rfl) (o_eql rfl rfl)) ?_
  refine gl_v rfl (o_assign rfl) ?_
  refine gl_nil ?_
  refine ge_then ?_
  refine g_cond_false rfl ?_
  refine g_seq ?_
  refine g_region ?_
  refine gl_v rfl (o_is (c := false) (by rfl) (o_eql rfl rfl)) ?_
  refine gl_v rfl (o_assign rfl) ?_
  refine gl_nil ?_
  refine ge_then ?_
  refine g_cond_false rfl ?_
  refine g_skip ?_
  refine ge_block ?_
  refine ge_then ?_
  refine g_seq ?_
  refine g_region ?_
  first | refine gl_v rfl (o_fldS rfl) ?_ | refine gl_v rfl (o_fld rfl) ?_
  first | refine gl_v rfl (o_load rfl rfl) ?_ | refine gl_v rfl (o_loadS rfl rfl) ?_ | refine gl_v rfl (o_loadC rfl) ?_
  refine gl_v rfl (o_idxS rfl rfl (show 0 < k.states.length by omega)) ?_
  refine gl_v rfl (o_loadSA (vs := staC s) rfl (flat_take staC 2 staC_len hs) rfl) ?_
  refine gl_n rfl (o_alloc) ?_
  rintro _ _ ⟨b14, rfl, rfl⟩
  first | refine gl_u (o_storeSA rfl rfl rfl rfl (by simp; omega) (by simp)) ?_ | refine gl_u (o_storeA rfl rfl rfl rfl rfl) ?_
  refine gl_nil ?_
  refine ge_then ?_
  refine g_seq ?_
  refine g_seq ?_
  refine g_region ?_
  first | refine gl_v rfl (o_fldS rfl) ?_ | refine gl_v rfl (o_fld rfl) ?_
  first | refine gl_v rfl (o_load rfl rfl) ?_ | refine gl_v rfl (o_loadS rfl rfl) ?_ | refine gl_v rfl (o_loadC rfl) ?_
  refine gl_v rfl (o_lenL rfl) ?_
  refine gl_v rfl (o_is (c := false) (by first | rfl | exact decide_eq_false (by omega) | (simp only [List.length]; exact decide_eq_false (by omega))) (o_eql rfl rfl)) ?_
  refine gl_nil ?_
  refine ge_then ?_
  refine g_cond_false rfl ?_
  refine g_skip ?_
  refine ge_then ?_
  refine g_seq ?_
  refine g_treeM [0, 3, 8, 9, 11] [0, 3, 8] (.stab 1 (.stab 2 (.stab 4 (.stab 5 (.stab 6 (.stab 7 (.eff 0 (.eff 3 (.eff 8 (.eff 9 (.loc 10 (.eff 11 .nil .nil)) .nil) .nil) (.eff 8 (.eff 3 (.eff 9 (.loc 10 (.eff 11 .nil .nil)) .nil) .nil) .nil)) (.eff 8 (.eff 0 (.eff 3 (.eff 9 (.loc 10 (.eff 11 .nil .nil)) .nil) .nil) .nil) .nil)))))))) [cel b14 44 (staC s), base W] mixed (by kernel_rfl) ?_
  first | refine gt_vs rfl .none rfl (o_fldS rfl) (To.sat (by repeat (first | exact .nil | exact .done .refl | (apply To.cons; · (repeat (first | exact .head | apply Sel.tail))) | exact .done (by repeat (first | exact .refl | apply Drop.skip))))) ?_ | refine gt_vs rfl .none rfl (o_fld rfl) (To.sat (by repeat (first | exact .nil | exact .done .refl | (apply To.cons; · (repeat (first | exact .head | apply Sel.tail))) | exact .done (by repeat (first | exact .refl | apply Drop.skip))))) ?_
  first | refine gt_vs rfl .none rfl (o_load rfl rfl) (To.sat (by repeat (first | exact .nil | exact .done .refl | (apply To.cons; · (repeat (first | exact .head | apply Sel.tail))) | exact .done (by repeat (first | exact .refl | apply Drop.skip))))) ?_ | refine gt_vs rfl .none rfl (o_loadS rfl rfl) (To.sat (by repeat (first | exact .nil | exact .done .refl | (apply To.cons; · (repeat (first | exact .head | apply Sel.tail))) | exact .done (by repeat (first | exact .refl | apply Drop.skip))))) ?_ | refine gt_vs rfl .none rfl (o_loadC rfl) (To.sat (by repeat (first | exact .nil | exact .done .refl | (apply To.cons; · (repeat (first | exact .head | apply Sel.tail))) | exact .done (by repeat (first | exact .refl | apply Drop.skip))))) ?_
  first | refine gt_vs rfl .none rfl (o_fldS rfl) (To.sat (by repeat (first | exact .nil | exact .done .refl | (apply To.cons; · (repeat (first | exact .head | apply Sel.tail))) | exact .done (by repeat (first | exact .refl | apply Drop.skip))))) ?_ | refine gt_vs rfl .none rfl (o_fld rfl) (To.sat (by repeat (first | exact .nil | exact .done .refl | (apply To.cons; · (repeat (first | exact .head | apply Sel.tail))) | exact .done (by repeat (first | exact .refl | apply Drop.skip))))) ?_
  first | refine gt_vs rfl .none rfl (o_load rfl rfl) (To.sat (by repeat (first | exact .nil | exact .done .refl | (apply To.cons; · (repeat (first | exact .head | apply Sel.tail))) | exact .done (by repeat (first | exact .refl | apply Drop.skip))))) ?_ | refine gt_vs rfl .none rfl (o_loadS rfl rfl) (To.sat (by repeat (first | exact .nil | exact .done .refl | (apply To.cons; · (repeat (first | exact .head | apply Sel.tail))) | exact .done (by repeat (first | exact .refl | apply Drop.skip))))) ?_ | refine gt_vs rfl .none rfl (o_loadC rfl) (To.sat (by repeat (first | exact .nil | exact .done .refl | (apply To.cons; · (repeat (first | exact .head | apply Sel.tail))) | exact .done (by repeat (first | exact .refl | apply Drop.skip))))) ?_
  refine gt_vs rfl .none rfl (o_idxS rfl rfl (show 0 < s.rows.length by omega)) (To.sat (by repeat (first | exact .nil | exact .done .refl | (apply To.cons; · (repeat (first | exact .head | apply Sel.tail))) | exact .done (by repeat (first | exact .refl | apply Drop.skip))))) ?_
  refine gt_vs rfl .none rfl (o_loadSA (vs := rowC r) rfl (flat_take rowC 4 rowC_len hr) rfl) (To.sat (by repeat (first | exact .nil | exact .done .refl | (apply To.cons; · (repeat (first | exact .head | apply Sel.tail))) | exact .done (by repeat (first | exact .refl | apply Drop.skip))))) ?_
  refine gt_alts ?_ ?_
  ·
    refine gt_n rfl .none rfl (o_buildS0) ?_
    rintro _ _ ⟨b156, rfl, rfl⟩
    refine ⟨(fun _ => (To.sat (by repeat (first | exact .nil | exact .done .refl | (apply To.cons; · (repeat (first | exact .head | apply Sel.tail))) | exact .done (by repeat (first | exact .refl | apply Drop.skip)))))), ?_⟩
    refine gt_alts ?_ ?_
    ·
      refine gt_n rfl .none rfl (o_appendS rfl rfl (by repeat (first | exact .head | apply Sel.tail)) rfl (flat_length rowC 4 rowC_len s.rows) (all_one (fun _ => rfl) s.rows) (by omega) (by unfold maxLen; omega)) ?_
      rintro _ _ ⟨a159, c159, rfl, rfl⟩
      simp only [Nat.zero_add, List.nil_append]
      refine ⟨(fun _ => (To.sat (by repeat (first | exact .nil | exact .done .refl | (apply To.cons; · (repeat (first | exact .head | apply Sel.tail))) | exact .done (by repeat (first | exact .refl | apply Drop.skip)))))), ?_⟩
      refine gt_n rfl .none rfl (o_buildS1A (vs := rowC r) rfl rfl rfl rfl) ?_
      rintro _ _ ⟨b164, rfl, rfl⟩
      refine ⟨(fun _ => (To.sat (by repeat (first | exact .nil | exact .done .refl | (apply To.cons; · (repeat (first | exact .head | apply Sel.tail))) | exact .done (by repeat (first | exact .refl | apply Drop.skip)))))), ?_⟩
      refine gt_n rfl .none rfl (o_append rfl rfl (by repeat (first | exact .nil | (apply Part.cons; · (repeat (first | exact .head | apply Sel.tail))))) rfl rfl rfl (by omega) (by unfold maxLen; omega)) ?_
      rintro _ _ ⟨a165, c165, rfl, rfl⟩
      rw [flat_one]
      refine ⟨(fun hG => absurd hG (by decide)), ?_⟩
      first | refine gt_v rfl .none rfl (o_fldS rfl) ?_ | refine gt_v rfl .none rfl (o_fld rfl) ?_
      first | refine gt_u rfl .none (o_store rfl rfl rfl rfl) (fun hG => absurd hG (by decide)) ?_ | refine gt_u rfl .none (o_storeS rfl rfl rfl (by first | assumption | omega | simp)) (fun hG => absurd hG (by decide)) ?_
      refine gt_nil ?_
      refine ge_then ?_
      refine g_seq ?_
      refine g_draw [1, 5, 7] [1] [(0, .loc), (2, .stab), (3, .stab), (4, .stab), (1, .eff), (5, .eff), (6, .loc), (7, .eff)] [cel b14 44 [sv s.name, Value.slice a165 (s.rows.length + 1) c165], cel b9 41 (kndC k), base W] mixed (by kernel_rfl) ?_
      refine go_v rfl .none rfl (o_loadA (vs := [sv s.name, Value.slice a165 (s.rows.length + 1) c165]) rfl rfl rfl) ?_
      first | refine go_vs rfl .none rfl (o_fldS rfl) (To.sat (by repeat (first | exact .nil | exact .done .refl | (apply To.cons; · (repeat (first | exact .head | apply Sel.tail))) | exact .done (by repeat (first | exact .refl | apply Drop.skip))))) ?_ | refine go_vs rfl .none rfl (o_fld rfl) (To.sat (by repeat (first | exact .nil | exact .done .refl | (apply To.cons; · (repeat (first | exact .head | apply Sel.tail))) | exact .done (by repeat (first | exact .refl | apply Drop.skip))))) ?_
      first | refine go_vs rfl .none rfl (o_load rfl rfl) (To.sat (by repeat (first | exact .nil | exact .done .refl | (apply To.cons; · (repeat (first | exact .head | apply Sel.tail))) | exact .done (by repeat (first | exact .refl | apply Drop.skip))))) ?_ | refine go_vs rfl .none rfl (o_loadS rfl rfl) (To.sat (by repeat (first | exact .nil | exact .done .refl | (apply To.cons; · (repeat (first | exact .head | apply Sel.tail))) | exact .done (by repeat (first | exact .refl | apply Drop.skip))))) ?_ | refine go_vs rfl .none rfl (o_loadC rfl) (To.sat (by repeat (first | exact .nil | exact .done .refl | (apply To.cons; · (repeat (first | exact .head | apply Sel.tail))) | exact .done (by repeat (first | exact .refl | apply Drop.skip))))) ?_
      refine go_vs rfl .none rfl (o_slFrom rfl rfl (show 1 ≤ k.states.length by omega)) (To.sat (by repeat (first | exact .nil | exact .done .refl | (apply To.cons; · (repeat (first | exact .head | apply Sel.tail))) | exact .done (by repeat (first | exact .refl | apply Drop.skip))))) ?_
      refine go_n rfl .none rfl (o_buildS1A (vs := [sv s.name, Value.slice a165 (s.rows.length + 1) c165]) rfl rfl rfl rfl) ?_
      rintro _ _ ⟨b168, rfl, rfl⟩
      refine ⟨(fun _ => (To.sat (by repeat (first | exact .nil | exact .done .refl | (apply To.cons; · (repeat (first | exact .head | apply Sel.tail))) | exact .done (by repeat (first | exact .refl | apply Drop.skip)))))), ?_⟩
      first | refine go_imp (own_lit (sz := 2) (k := 1) rfl (by decide)) ?_ | refine gt_imp (own_lit (sz := 2) (k := 1) rfl (by decide)) ?_
      refine go_n rfl .none rfl (o_appendS (news := S.flatMap staC) rfl rfl (by repeat (first | exact .head | apply Sel.tail)) rfl (by rw [flat_length staC 2 staC_len]; omega) (all_one (fun _ => rfl) S) (by omega) (by unfold maxLen; omega)) ?_
      rintro _ _ ⟨a172, c172, rfl, rfl⟩
      rw [show 1 + (k.states.length - 1) = k.states.length by omega, show [sv s.name, Value.slice a165 (s.rows.length + 1) c165] ++ S.flatMap staC = ({ s with ra := a165, rc := c165, rows := s.rows ++ [r] } :: S).flatMap staC by simp [staC]]
      refine ⟨(fun hG => absurd hG (by decide)), ?_⟩
      first | refine go_v rfl .none rfl (o_fldS rfl) ?_ | refine go_v rfl .none rfl (o_fld rfl) ?_
      first | refine go_u rfl .none (o_store rfl rfl rfl rfl) (fun hG => absurd hG (by decide)) ?_ | refine go_u rfl .none (o_storeS rfl rfl rfl (by first | assumption | omega | simp)) (fun hG => absurd hG (by decide)) ?_
      refine go_nil ?_
      refine ge_then ?_
      refine g_seq ?_
      refine g_region ?_
      first | refine gl_v rfl (o_fldS rfl) ?_ | refine gl_v rfl (o_fld rfl) ?_
      first | refine gl_v rfl (o_load rfl rfl) ?_ | refine gl_v rfl (o_loadS rfl rfl) ?_ | refine gl_v rfl (o_loadC rfl) ?_
      refine gl_v rfl (o_move rfl) ?_
      refine gl_v rfl (o_loadA (vs := [sv k.name, iv k.limit, iv k.within, Value.slice k.ca k.cases.length k.cc, Value.slice a172 k.states.length c172]) rfl rfl rfl) ?_
      refine gl_v rfl (o_idxS rfl rfl hiL) ?_
      refine gl_u (o_storeSA (vs := [sv k.name, iv k.limit, iv k.within, Value.slice k.ca k.cases.length k.cc, Value.slice a172 k.states.length c172]) rfl rfl rfl rfl (by rw [flat_length kndC 5 kndC_len]; simp only [List.length]; omega) (Nat.succ_pos _)) ?_
      rw [show [sv k.name, iv k.limit, iv k.within, Value.slice k.ca k.cases.length k.cc, Value.slice a172 k.states.length c172] = kndC { k with sa := a172, sc := c172, states := { s with ra := a165, rc := c165, rows := s.rows ++ [r] } :: S } by simp [kndC, hSl], splice_flat kndC 5 kndC_len _ KK i hiL]
      have hQ := (twice_row hR hk hS hr a172 a165 c172 c165).trans (if_pos h16)
      refine gl_nil ?_
      refine ge_then ?_
      refine g_seq ?_
      refine g_region ?_
      refine gl_v rfl (o_loadA (vs := [Value.slice a25 KK.length c25]) rfl rfl rfl) ?_
      refine gl_c rfl (o_call rfl (ep_some (prog_l (pa := a25) (pc := c25) (n := KK.length) (KK := KK.set i { k with sa := a172, sc := c172, states := { s with ra := a165, rc := c165, rows := s.rows ++ [r] } :: S }) (by rw [List.length_set]) [own (.slice a25 KK.length c25) 41 5 KK.length ((KK.set i { k with sa := a172, sc := c172, states := { s with ra := a165, rc := c165, rows := s.rows ++ [r] } :: S }).flatMap kndC), own (.slice a172 k.states.length c172) 44 2 k.states.length (({ s with ra := a165, rc := c165, rows := s.rows ++ [r] } :: S).flatMap staC), own (.slice a165 (s.rows.length + 1) c165) 47 4 (s.rows.length + 1) ((s.rows ++ [r]).flatMap rowC), base W] (fun h st => prgOk_set (prg_sat hA (by repeat (first | exact .head | apply Sel.tail)) st) (own_rdh (OwS.get (v := .slice a25 KK.length c25) st) (by rw [List.length_set])) (kndOk_sts ((prg_sat hA (by repeat (first | exact .head | apply Sel.tail)) st).kinds k hkm) (own_rdh (OwS.get (v := .slice a172 k.states.length c172) st) (by rw [hSl]; rfl)) (by unfold ok63; simp; omega) (fun s' hs' => (List.mem_cons.1 hs').elim (fun e => e ▸ staOk_rows (((prg_sat hA (by repeat (first | exact .head | apply Sel.tail)) st).kinds k hkm).states s hsm) (own_rdh (OwS.get (v := .slice a165 (s.rows.length + 1) c165) st) (by simp)) (by unfold ok63; simp; omega) (fun r' hr' => (List.mem_append.1 hr').elim ((((prg_sat hA (by repeat (first | exact .head | apply Sel.tail)) st).kinds k hkm).states s hsm).rows r') (fun e => List.mem_singleton.1 e ▸ (((prg_sat hA (by repeat (first | exact .head | apply Sel.tail)) st).kinds k hkm).states s hsm).rows r (List.mem_of_getElem? hr)))) (fun h' => ((prg_sat hA (by repeat (first | exact .head | apply Sel.tail)) st).kinds k hkm).states s' (by rw [hS]; exact List.mem_cons_of_mem _ h')))))) hQ) (by repeat (first | exact .nil | (apply Part.cons; · (repeat (first | exact .head | apply Sel.tail)))))) ?_
      rintro _ R ⟨_, ⟨b, a, cp, rfl, rfl⟩, rfl⟩
      try simp only [List.cons_append, List.nil_append]
      refine gl_v rfl (o_assign rfl) ?_
      refine gl_nil ?_
      refine ge_then ?_
      refine g_seq ?_
      refine g_region ?_
      refine gl_v rfl (o_move rfl) ?_
      refine gl_c rfl (o_call rfl (Where_bad hG b 40 a cp [((i + 1 : Nat) : Int), 1] (by simp)) (by repeat (first | exact .nil | (apply Part.cons; · (repeat (first | exact .head | apply Sel.tail)))))) ?_
      rintro _ R ⟨_, ⟨a3, cp3, rfl, rfl⟩, rfl⟩
      try simp only [List.cons_append, List.nil_append]
      refine gl_v rfl (o_assign rfl) ?_
      refine gl_nil ?_
      refine ge_then ?_
      refine g_seq ?_
      refine g_draw [6, 16] [] [(0, .loc), (1, .loc), (2, .loc), (3, .loc), (4, .loc), (5, .loc), (6, .eff), (7, .loc), (8, .loc), (9, .loc), (10, .loc), (11, .loc), (12, .loc), (13, .loc), (14, .loc), (15, .loc), (16, .eff), (17, .loc), (18, .loc), (19, .loc), (20, .loc), (21, .loc), (22, .loc), (23, .loc), (24, .loc), (25, .loc), (26, .loc), (27, .loc), (28, .loc), (29, .loc), (30, .loc), (31, .loc), (32, .loc), (33, .loc), (34, .loc), (35, .loc), (36, .loc), (37, .loc), (38, .loc), (39, .loc), (40, .loc), (41, .loc), (42, .loc), (43, .loc), (44, .loc), (45, .loc), (46, .loc), (47, .loc)] [cel b14 44 [sv s.name, Value.slice a165 (s.rows.length + 1) c165], intsA a3 cp3 [((i + 1 : Nat) : Int), 1]] mixed (by kernel_rfl) ?_
      first | refine go_v rfl .none rfl (o_fldS rfl) ?_ | refine go_v rfl .none rfl (o_fld rfl) ?_
      first | refine go_v rfl .none rfl (o_load rfl rfl) ?_ | refine go_v rfl .none rfl (o_loadS rfl rfl) ?_ | refine go_v rfl .none rfl (o_loadC rfl) ?_
      refine go_v rfl .none rfl (o_lenL rfl) ?_
      refine go_v rfl .none rfl (o_is (c := true) (by first | rfl | exact decide_eq_true (by omega) | (simp only [List.length]; exact decide_eq_true (by omega))) (o_eql rfl rfl)) ?_
      refine go_v rfl .none rfl (o_move rfl) ?_
      refine go_v rfl (.yes rfl rfl rfl) rfl (o_move rfl) ?_
      refine go_c rfl (.yes rfl rfl rfl) rfl (o_call rfl (Code_bad hG b 2 40 a cp) (by repeat (first | exact .nil | (apply Part.cons; · (repeat (first | exact .head | apply Sel.tail)))))) ?_
      rintro _ R ⟨_, ⟨rfl, rfl⟩, rfl⟩
      try simp only [List.cons_append, List.nil_append]
      refine ⟨(fun hG => absurd hG (by decide)), ?_⟩
      refine go_v rfl (.yes rfl rfl rfl) rfl (o_is (c := true) (by first | rfl | exact decide_eq_true (by omega) | (simp only [List.length]; exact decide_eq_true (by omega))) (o_eql rfl rfl)) ?_
      refine go_v rfl .none rfl (o_pickT rfl rfl rfl) ?_
      refine go_v rfl .none rfl (o_move rfl) ?_
      refine go_v rfl (.yes rfl rfl rfl) rfl (o_move rfl) ?_
      refine go_v rfl (.yes rfl rfl rfl) rfl (o_lenL rfl) ?_
      refine go_v rfl (.yes rfl rfl rfl) rfl (o_is (c := true) (by first | rfl | exact decide_eq_true (by omega) | (simp only [List.length]; exact decide_eq_true (by omega))) (o_eql rfl rfl)) ?_
      refine go_v rfl .none rfl (o_pickT rfl rfl rfl) ?_
      refine go_v rfl .none rfl (o_move rfl) ?_
      refine go_skip rfl (.no rfl rfl rfl) rfl ?_
      refine go_skip rfl (.no rfl rfl rfl) rfl ?_
      refine go_skip rfl (.no rfl rfl rfl) rfl ?_
      refine go_skip rfl (.no rfl rfl rfl) rfl ?_
      refine go_skip rfl (.un rfl rfl) rfl ?_
      refine go_skip rfl (.un rfl rfl) rfl ?_
      refine go_skip rfl (.un rfl rfl) rfl ?_
      refine go_skip rfl (.no rfl rfl rfl) rfl ?_
      refine go_skip rfl (.no rfl rfl rfl) rfl ?_
      refine go_skip rfl (.un rfl rfl) rfl ?_
      refine go_skip rfl (.un rfl rfl) rfl ?_
      refine go_skip rfl (.un rfl rfl) rfl ?_
      refine go_skip rfl (.un rfl rfl) rfl ?_
      refine go_skip rfl (.un rfl rfl) rfl ?_
      refine go_skip rfl (.un rfl rfl) rfl ?_
      refine go_skip rfl (.no rfl rfl rfl) rfl ?_
      refine go_skip rfl (.no rfl rfl rfl) rfl ?_
      refine go_skip rfl (.un rfl rfl) rfl ?_
      refine go_skip rfl (.un rfl rfl) rfl ?_
      refine go_skip rfl (.un rfl rfl) rfl ?_
      refine go_skip rfl (.un rfl rfl) rfl ?_
      refine go_skip rfl (.no rfl rfl rfl) rfl ?_
      refine go_skip rfl (.no rfl rfl rfl) rfl ?_
      refine go_skip rfl (.un rfl rfl) rfl ?_
      refine go_skip rfl (.un rfl rfl) rfl ?_
      refine go_skip rfl (.un rfl rfl) rfl ?_
      refine go_skip rfl (.un rfl rfl) rfl ?_
      refine go_skip rfl (.un rfl rfl) rfl ?_
      refine go_skip rfl (.un rfl rfl) rfl ?_
      refine go_skip rfl (.un rfl rfl) rfl ?_
      refine go_skip rfl (.no rfl rfl rfl) rfl ?_
      refine go_v rfl .none rfl (o_pickT rfl rfl rfl) ?_
      refine go_v rfl .none rfl (o_assign rfl) ?_
      refine go_nil ?_
      refine ge_then ?_
      refine g_ret ?_
      refine ret1 (.inl rfl) rfl rfl [base W] (⟨rfl, rfl⟩) (To.sat (by repeat (first | exact .nil | exact .done .refl | (apply To.cons; · (repeat (first | exact .head | apply Sel.tail))) | exact .done (by repeat (first | exact .refl | apply Drop.skip)))))
    ·
      refine gt_n rfl .none rfl (o_buildS1A (vs := rowC r) rfl rfl rfl rfl) ?_
      rintro _ _ ⟨b164, rfl, rfl⟩
      refine ⟨(fun _ => (To.sat (by repeat (first | exact .nil | exact .done .refl | (apply To.cons; · (repeat (first | exact .head | apply Sel.tail))) | exact .done (by repeat (first | exact .refl | apply Drop.skip)))))), ?_⟩
      refine gt_n rfl .none rfl (o_appendS rfl rfl (by repeat (first | exact .head | apply Sel.tail)) rfl (flat_length rowC 4 rowC_len s.rows) (all_one (fun _ => rfl) s.rows) (by omega) (by unfold maxLen; omega)) ?_
      rintro _ _ ⟨a159, c159, rfl, rfl⟩
      simp only [Nat.zero_add, List.nil_append]
      refine ⟨(fun _ => (To.sat (by repeat (first | exact .nil | exact .done .refl | (apply To.cons; · (repeat (first | exact .head | apply Sel.tail))) | exact .done (by repeat (first | exact .refl | apply Drop.skip)))))), ?_⟩
      refine gt_n rfl .none rfl (o_append rfl rfl (by repeat (first | exact .nil | (apply Part.cons; · (repeat (first | exact .head | apply Sel.tail))))) rfl rfl rfl (by omega) (by unfold maxLen; omega)) ?_
      rintro _ _ ⟨a165, c165, rfl, rfl⟩
      rw [flat_one]
      refine ⟨(fun hG => absurd hG (by decide)), ?_⟩
      first | refine gt_v rfl .none rfl (o_fldS rfl) ?_ | refine gt_v rfl .none rfl (o_fld rfl) ?_
      first | refine gt_u rfl .none (o_store rfl rfl rfl rfl) (fun hG => absurd hG (by decide)) ?_ | refine gt_u rfl .none (o_storeS rfl rfl rfl (by first | assumption | omega | simp)) (fun hG => absurd hG (by decide)) ?_
      refine gt_nil ?_
      refine ge_then ?_
      refine g_seq ?_
      refine g_draw [1, 5, 7] [1] [(0, .loc), (2, .stab), (3, .stab), (4, .stab), (1, .eff), (5, .eff), (6, .loc), (7, .eff)] [cel b14 44 [sv s.name, Value.slice a165 (s.rows.length + 1) c165], cel b9 41 (kndC k), base W] mixed (by kernel_rfl) ?_
      refine go_v rfl .none rfl (o_loadA (vs := [sv s.name, Value.slice a165 (s.rows.length + 1) c165]) rfl rfl rfl) ?_
      first | refine go_vs rfl .none rfl (o_fldS rfl) (To.sat (by repeat (first | exact .nil | exact .done .refl | (apply To.cons; · (repeat (first | exact .head | apply Sel.tail))) | exact .done (by repeat (first | exact .refl | apply Drop.skip))))) ?_ | refine go_vs rfl .none rfl (o_fld rfl) (To.sat (by repeat (first | exact .nil | exact .done .refl | (apply To.cons; · (repeat (first | exact .head | apply Sel.tail))) | exact .done (by repeat (first | exact .refl | apply Drop.skip))))) ?_
      first | refine go_vs rfl .none rfl (o_load rfl rfl) (To.sat (by repeat (first | exact .nil | exact .done .refl | (apply To.cons; · (repeat (first | exact .head | apply Sel.tail))) | exact .done (by repeat (first | exact .refl | apply Drop.skip))))) ?_ | refine go_vs rfl .none rfl (o_loadS rfl rfl) (To.sat (by repeat (first | exact .nil | exact .done .refl | (apply To.cons; · (repeat (first | exact .head | apply Sel.tail))) | exact .done (by repeat (first | exact .refl | apply Drop.skip))))) ?_ | refine go_vs rfl .none rfl (o_loadC rfl) (To.sat (by repeat (first | exact .nil | exact .done .refl | (apply To.cons; · (repeat (first | exact .head | apply Sel.tail))) | exact .done (by repeat (first | exact .refl | apply Drop.skip))))) ?_
      refine go_vs rfl .none rfl (o_slFrom rfl rfl (show 1 ≤ k.states.length by omega)) (To.sat (by repeat (first | exact .nil | exact .done .refl | (apply To.cons; · (repeat (first | exact .head | apply Sel.tail))) | exact .done (by repeat (first | exact .refl | apply Drop.skip))))) ?_
      refine go_n rfl .none rfl (o_buildS1A (vs := [sv s.name, Value.slice a165 (s.rows.length + 1) c165]) rfl rfl rfl rfl) ?_
      rintro _ _ ⟨b168, rfl, rfl⟩
      refine ⟨(fun _ => (To.sat (by repeat (first | exact .nil | exact .done .refl | (apply To.cons; · (repeat (first | exact .head | apply Sel.tail))) | exact .done (by repeat (first | exact .refl | apply Drop.skip)))))), ?_⟩
      first | refine go_imp (own_lit (sz := 2) (k := 1) rfl (by decide)) ?_ | refine gt_imp (own_lit (sz := 2) (k := 1) rfl (by decide)) ?_
      refine go_n rfl .none rfl (o_appendS (news := S.flatMap staC) rfl rfl (by repeat (first | exact .head | apply Sel.tail)) rfl (by rw [flat_length staC 2 staC_len]; omega) (all_one (fun _ => rfl) S) (by omega) (by unfold maxLen; omega)) ?_
      rintro _ _ ⟨a172, c172, rfl, rfl⟩
      rw [show 1 + (k.states.length - 1) = k.states.length by omega, show [sv s.name, Value.slice a165 (s.rows.length + 1) c165] ++ S.flatMap staC = ({ s with ra := a165, rc := c165, rows := s.rows ++ [r] } :: S).flatMap staC by simp [staC]]
      refine ⟨(fun hG => absurd hG (by decide)), ?_⟩
      first | refine go_v rfl .none rfl (o_fldS rfl) ?_ | refine go_v rfl .none rfl (o_fld rfl) ?_
      first | refine go_u rfl .none (o_store rfl rfl rfl rfl) (fun hG => absurd hG (by decide)) ?_ | refine go_u rfl .none (o_storeS rfl rfl rfl (by first | assumption | omega | simp)) (fun hG => absurd hG (by decide)) ?_
      refine go_nil ?_
      refine ge_then ?_
      refine g_seq ?_
      refine g_region ?_
      first | refine gl_v rfl (o_fldS rfl) ?_ | refine gl_v rfl (o_fld rfl) ?_
      first | refine gl_v rfl (o_load rfl rfl) ?_ | refine gl_v rfl (o_loadS rfl rfl) ?_ | refine gl_v rfl (o_loadC rfl) ?_
      refine gl_v rfl (o_move rfl) ?_
      refine gl_v rfl (o_loadA (vs := [sv k.name, iv k.limit, iv k.within, Value.slice k.ca k.cases.length k.cc, Value.slice a172 k.states.length c172]) rfl rfl rfl) ?_
      refine gl_v rfl (o_idxS rfl rfl hiL) ?_
      refine gl_u (o_storeSA (vs := [sv k.name, iv k.limit, iv k.within, Value.slice k.ca k.cases.length k.cc, Value.slice a172 k.states.length c172]) rfl rfl rfl rfl (by rw [flat_length kndC 5 kndC_len]; simp only [List.length]; omega) (Nat.succ_pos _)) ?_
      rw [show [sv k.name, iv k.limit, iv k.within, Value.slice k.ca k.cases.length k.cc, Value.slice a172 k.states.length c172] = kndC { k with sa := a172, sc := c172, states := { s with ra := a165, rc := c165, rows := s.rows ++ [r] } :: S } by simp [kndC, hSl], splice_flat kndC 5 kndC_len _ KK i hiL]
      have hQ := (twice_row hR hk hS hr a172 a165 c172 c165).trans (if_pos h16)
      refine gl_nil ?_
      refine ge_then ?_
      refine g_seq ?_
      refine g_region ?_
      refine gl_v rfl (o_loadA (vs := [Value.slice a25 KK.length c25]) rfl rfl rfl) ?_
      refine gl_c rfl (o_call rfl (ep_some (prog_l (pa := a25) (pc := c25) (n := KK.length) (KK := KK.set i { k with sa := a172, sc := c172, states := { s with ra := a165, rc := c165, rows := s.rows ++ [r] } :: S }) (by rw [List.length_set]) [own (.slice a25 KK.length c25) 41 5 KK.length ((KK.set i { k with sa := a172, sc := c172, states := { s with ra := a165, rc := c165, rows := s.rows ++ [r] } :: S }).flatMap kndC), own (.slice a172 k.states.length c172) 44 2 k.states.length (({ s with ra := a165, rc := c165, rows := s.rows ++ [r] } :: S).flatMap staC), own (.slice a165 (s.rows.length + 1) c165) 47 4 (s.rows.length + 1) ((s.rows ++ [r]).flatMap rowC), base W] (fun h st => prgOk_set (prg_sat hA (by repeat (first | exact .head | apply Sel.tail)) st) (own_rdh (OwS.get (v := .slice a25 KK.length c25) st) (by rw [List.length_set])) (kndOk_sts ((prg_sat hA (by repeat (first | exact .head | apply Sel.tail)) st).kinds k hkm) (own_rdh (OwS.get (v := .slice a172 k.states.length c172) st) (by rw [hSl]; rfl)) (by unfold ok63; simp; omega) (fun s' hs' => (List.mem_cons.1 hs').elim (fun e => e ▸ staOk_rows (((prg_sat hA (by repeat (first | exact .head | apply Sel.tail)) st).kinds k hkm).states s hsm) (own_rdh (OwS.get (v := .slice a165 (s.rows.length + 1) c165) st) (by simp)) (by unfold ok63; simp; omega) (fun r' hr' => (List.mem_append.1 hr').elim ((((prg_sat hA (by repeat (first | exact .head | apply Sel.tail)) st).kinds k hkm).states s hsm).rows r') (fun e => List.mem_singleton.1 e ▸ (((prg_sat hA (by repeat (first | exact .head | apply Sel.tail)) st).kinds k hkm).states s hsm).rows r (List.mem_of_getElem? hr)))) (fun h' => ((prg_sat hA (by repeat (first | exact .head | apply Sel.tail)) st).kinds k hkm).states s' (by rw [hS]; exact List.mem_cons_of_mem _ h')))))) hQ) (by repeat (first | exact .nil | (apply Part.cons; · (repeat (first | exact .head | apply Sel.tail)))))) ?_
      rintro _ R ⟨_, ⟨b, a, cp, rfl, rfl⟩, rfl⟩
      try simp only [List.cons_append, List.nil_append]
      refine gl_v rfl (o_assign rfl) ?_
      refine gl_nil ?_
      refine ge_then ?_
      refine g_seq ?_
      refine g_region ?_
      refine gl_v rfl (o_move rfl) ?_
      refine gl_c rfl (o_call rfl (Where_bad hG b 40 a cp [((i + 1 : Nat) : Int), 1] (by simp)) (by repeat (first | exact .nil | (apply Part.cons; · (repeat (first | exact .head | apply Sel.tail)))))) ?_
      rintro _ R ⟨_, ⟨a3, cp3, rfl, rfl⟩, rfl⟩
      try simp only [List.cons_append, List.nil_append]
      refine gl_v rfl (o_assign rfl) ?_
      refine gl_nil ?_
      refine ge_then ?_
      refine g_seq ?_
      refine g_draw [6, 16] [] [(0, .loc), (1, .loc), (2, .loc), (3, .loc), (4, .loc), (5, .loc), (6, .eff), (7, .loc), (8, .loc), (9, .loc), (10, .loc), (11, .loc), (12, .loc), (13, .loc), (14, .loc), (15, .loc), (16, .eff), (17, .loc), (18, .loc), (19, .loc), (20, .loc), (21, .loc), (22, .loc), (23, .loc), (24, .loc), (25, .loc), (26, .loc), (27, .loc), (28, .loc), (29, .loc), (30, .loc), (31, .loc), (32, .loc), (33, .loc), (34, .loc), (35, .loc), (36, .loc), (37, .loc), (38, .loc), (39, .loc), (40, .loc), (41, .loc), (42, .loc), (43, .loc), (44, .loc), (45, .loc), (46, .loc), (47, .loc)] [cel b14 44 [sv s.name, Value.slice a165 (s.rows.length + 1) c165], intsA a3 cp3 [((i + 1 : Nat) : Int), 1]] mixed (by kernel_rfl) ?_
      first | refine go_v rfl .none rfl (o_fldS rfl) ?_ | refine go_v rfl .none rfl (o_fld rfl) ?_
      first | refine go_v rfl .none rfl (o_load rfl rfl) ?_ | refine go_v rfl .none rfl (o_loadS rfl rfl) ?_ | refine go_v rfl .none rfl (o_loadC rfl) ?_
      refine go_v rfl .none rfl (o_lenL rfl) ?_
      refine go_v rfl .none rfl (o_is (c := true) (by first | rfl | exact decide_eq_true (by omega) | (simp only [List.length]; exact decide_eq_true (by omega))) (o_eql rfl rfl)) ?_
      refine go_v rfl .none rfl (o_move rfl) ?_
      refine go_v rfl (.yes rfl rfl rfl) rfl (o_move rfl) ?_
      refine go_c rfl (.yes rfl rfl rfl) rfl (o_call rfl (Code_bad hG b 2 40 a cp) (by repeat (first | exact .nil | (apply Part.cons; · (repeat (first | exact .head | apply Sel.tail)))))) ?_
      rintro _ R ⟨_, ⟨rfl, rfl⟩, rfl⟩
      try simp only [List.cons_append, List.nil_append]
      refine ⟨(fun hG => absurd hG (by decide)), ?_⟩
      refine go_v rfl (.yes rfl rfl rfl) rfl (o_is (c := true) (by first | rfl | exact decide_eq_true (by omega) | (simp only [List.length]; exact decide_eq_true (by omega))) (o_eql rfl rfl)) ?_
      refine go_v rfl .none rfl (o_pickT rfl rfl rfl) ?_
      refine go_v rfl .none rfl (o_move rfl) ?_
      refine go_v rfl (.yes rfl rfl rfl) rfl (o_move rfl) ?_
      refine go_v rfl (.yes rfl rfl rfl) rfl (o_lenL rfl) ?_
      refine go_v rfl (.yes rfl rfl rfl) rfl (o_is (c := true) (by first | rfl | exact decide_eq_true (by omega) | (simp only [List.length]; exact decide_eq_true (by omega))) (o_eql rfl rfl)) ?_
      refine go_v rfl .none rfl (o_pickT rfl rfl rfl) ?_
      refine go_v rfl .none rfl (o_move rfl) ?_
      refine go_skip rfl (.no rfl rfl rfl) rfl ?_
      refine go_skip rfl (.no rfl rfl rfl) rfl ?_
      refine go_skip rfl (.no rfl rfl rfl) rfl ?_
      refine go_skip rfl (.no rfl rfl rfl) rfl ?_
      refine go_skip rfl (.un rfl rfl) rfl ?_
      refine go_skip rfl (.un rfl rfl) rfl ?_
      refine go_skip rfl (.un rfl rfl) rfl ?_
      refine go_skip rfl (.no rfl rfl rfl) rfl ?_
      refine go_skip rfl (.no rfl rfl rfl) rfl ?_
      refine go_skip rfl (.un rfl rfl) rfl ?_
      refine go_skip rfl (.un rfl rfl) rfl ?_
      refine go_skip rfl (.un rfl rfl) rfl ?_
      refine go_skip rfl (.un rfl rfl) rfl ?_
      refine go_skip rfl (.un rfl rfl) rfl ?_
      refine go_skip rfl (.un rfl rfl) rfl ?_
      refine go_skip rfl (.no rfl rfl rfl) rfl ?_
      refine go_skip rfl (.no rfl rfl rfl) rfl ?_
      refine go_skip rfl (.un rfl rfl) rfl ?_
      refine go_skip rfl (.un rfl rfl) rfl ?_
      refine go_skip rfl (.un rfl rfl) rfl ?_
      refine go_skip rfl (.un rfl rfl) rfl ?_
      refine go_skip rfl (.no rfl rfl rfl) rfl ?_
      refine go_skip rfl (.no rfl rfl rfl) rfl ?_
      refine go_skip rfl (.un rfl rfl) rfl ?_
      refine go_skip rfl (.un rfl rfl) rfl ?_
      refine go_skip rfl (.un rfl rfl) rfl ?_
      refine go_skip rfl (.un rfl rfl) rfl ?_
      refine go_skip rfl (.un rfl rfl) rfl ?_
      refine go_skip rfl (.un rfl rfl) rfl ?_
      refine go_skip rfl (.un rfl rfl) rfl ?_
      refine go_skip rfl (.no rfl rfl rfl) rfl ?_
      refine go_v rfl .none rfl (o_pickT rfl rfl rfl) ?_
      refine go_v rfl .none rfl (o_assign rfl) ?_
      refine go_nil ?_
      refine ge_then ?_
      refine g_ret ?_
      refine ret1 (.inl rfl) rfl rfl [base W] (⟨rfl, rfl⟩) (To.sat (by repeat (first | exact .nil | exact .done .refl | (apply To.cons; · (repeat (first | exact .head | apply Sel.tail))) | exact .done (by repeat (first | exact .refl | apply Drop.skip)))))
  ·
    refine gt_n rfl .none rfl (o_buildS1A (vs := rowC r) rfl rfl rfl rfl) ?_
    rintro _ _ ⟨b164, rfl, rfl⟩
    refine ⟨(fun _ => (To.sat (by repeat (first | exact .nil | exact .done .refl | (apply To.cons; · (repeat (first | exact .head | apply Sel.tail))) | exact .done (by repeat (first | exact .refl | apply Drop.skip)))))), ?_⟩
    refine gt_n rfl .none rfl (o_buildS0) ?_
    rintro _ _ ⟨b156, rfl, rfl⟩
    refine ⟨(fun _ => (To.sat (by repeat (first | exact .nil | exact .done .refl | (apply To.cons; · (repeat (first | exact .head | apply Sel.tail))) | exact .done (by repeat (first | exact .refl | apply Drop.skip)))))), ?_⟩
    refine gt_n rfl .none rfl (o_appendS rfl rfl (by repeat (first | exact .head | apply Sel.tail)) rfl (flat_length rowC 4 rowC_len s.rows) (all_one (fun _ => rfl) s.rows) (by omega) (by unfold maxLen; omega)) ?_
    rintro _ _ ⟨a159, c159, rfl, rfl⟩
    simp only [Nat.zero_add, List.nil_append]
    refine ⟨(fun _ => (To.sat (by repeat (first | exact .nil | exact .done .refl | (apply To.cons; · (repeat (first | exact .head | apply Sel.tail))) | exact .done (by repeat (first | exact .refl | apply Drop.skip)))))), ?_⟩
    refine gt_n rfl .none rfl (o_append rfl rfl (by repeat (first | exact .nil | (apply Part.cons; · (repeat (first | exact .head | apply Sel.tail))))) rfl rfl rfl (by omega) (by unfold maxLen; omega)) ?_
    rintro _ _ ⟨a165, c165, rfl, rfl⟩
    rw [flat_one]
    refine ⟨(fun hG => absurd hG (by decide)), ?_⟩
    first | refine gt_v rfl .none rfl (o_fldS rfl) ?_ | refine gt_v rfl .none rfl (o_fld rfl) ?_
    first | refine gt_u rfl .none (o_store rfl rfl rfl rfl) (fun hG => absurd hG (by decide)) ?_ | refine gt_u rfl .none (o_storeS rfl rfl rfl (by first | assumption | omega | simp)) (fun hG => absurd hG (by decide)) ?_
    refine gt_nil ?_
    refine ge_then ?_
    refine g_seq ?_
    refine g_draw [1, 5, 7] [1] [(0, .loc), (2, .stab), (3, .stab), (4, .stab), (1, .eff), (5, .eff), (6, .loc), (7, .eff)] [cel b14 44 [sv s.name, Value.slice a165 (s.rows.length + 1) c165], cel b9 41 (kndC k), base W] mixed (by kernel_rfl) ?_
    refine go_v rfl .none rfl (o_loadA (vs := [sv s.name, Value.slice a165 (s.rows.length + 1) c165]) rfl rfl rfl) ?_
    first | refine go_vs rfl .none rfl (o_fldS rfl) (To.sat (by repeat (first | exact .nil | exact .done .refl | (apply To.cons; · (repeat (first | exact .head | apply Sel.tail))) | exact .done (by repeat (first | exact .refl | apply Drop.skip))))) ?_ | refine go_vs rfl .none rfl (o_fld rfl) (To.sat (by repeat (first | exact .nil | exact .done .refl | (apply To.cons; · (repeat (first | exact .head | apply Sel.tail))) | exact .done (by repeat (first | exact .refl | apply Drop.skip))))) ?_
    first | refine go_vs rfl .none rfl (o_load rfl rfl) (To.sat (by repeat (first | exact .nil | exact .done .refl | (apply To.cons; · (repeat (first | exact .head | apply Sel.tail))) | exact .done (by repeat (first | exact .refl | apply Drop.skip))))) ?_ | refine go_vs rfl .none rfl (o_loadS rfl rfl) (To.sat (by repeat (first | exact .nil | exact .done .refl | (apply To.cons; · (repeat (first | exact .head | apply Sel.tail))) | exact .done (by repeat (first | exact .refl | apply Drop.skip))))) ?_ | refine go_vs rfl .none rfl (o_loadC rfl) (To.sat (by repeat (first | exact .nil | exact .done .refl | (apply To.cons; · (repeat (first | exact .head | apply Sel.tail))) | exact .done (by repeat (first | exact .refl | apply Drop.skip))))) ?_
    refine go_vs rfl .none rfl (o_slFrom rfl rfl (show 1 ≤ k.states.length by omega)) (To.sat (by repeat (first | exact .nil | exact .done .refl | (apply To.cons; · (repeat (first | exact .head | apply Sel.tail))) | exact .done (by repeat (first | exact .refl | apply Drop.skip))))) ?_
    refine go_n rfl .none rfl (o_buildS1A (vs := [sv s.name, Value.slice a165 (s.rows.length + 1) c165]) rfl rfl rfl rfl) ?_
    rintro _ _ ⟨b168, rfl, rfl⟩
    refine ⟨(fun _ => (To.sat (by repeat (first | exact .nil | exact .done .refl | (apply To.cons; · (repeat (first | exact .head | apply Sel.tail))) | exact .done (by repeat (first | exact .refl | apply Drop.skip)))))), ?_⟩
    first | refine go_imp (own_lit (sz := 2) (k := 1) rfl (by decide)) ?_ | refine gt_imp (own_lit (sz := 2) (k := 1) rfl (by decide)) ?_
    refine go_n rfl .none rfl (o_appendS (news := S.flatMap staC) rfl rfl (by repeat (first | exact .head | apply Sel.tail)) rfl (by rw [flat_length staC 2 staC_len]; omega) (all_one (fun _ => rfl) S) (by omega) (by unfold maxLen; omega)) ?_
    rintro _ _ ⟨a172, c172, rfl, rfl⟩
    rw [show 1 + (k.states.length - 1) = k.states.length by omega, show [sv s.name, Value.slice a165 (s.rows.length + 1) c165] ++ S.flatMap staC = ({ s with ra := a165, rc := c165, rows := s.rows ++ [r] } :: S).flatMap staC by simp [staC]]
    refine ⟨(fun hG => absurd hG (by decide)), ?_⟩
    first | refine go_v rfl .none rfl (o_fldS rfl) ?_ | refine go_v rfl .none rfl (o_fld rfl) ?_
    first | refine go_u rfl .none (o_store rfl rfl rfl rfl) (fun hG => absurd hG (by decide)) ?_ | refine go_u rfl .none (o_storeS rfl rfl rfl (by first | assumption | omega | simp)) (fun hG => absurd hG (by decide)) ?_
    refine go_nil ?_
    refine ge_then ?_
    refine g_seq ?_
    refine g_region ?_
    first | refine gl_v rfl (o_fldS rfl) ?_ | refine gl_v rfl (o_fld rfl) ?_
    first | refine gl_v rfl (o_load rfl rfl) ?_ | refine gl_v rfl (o_loadS rfl rfl) ?_ | refine gl_v rfl (o_loadC rfl) ?_
    refine gl_v rfl (o_move rfl) ?_
    refine gl_v rfl (o_loadA (vs := [sv k.name, iv k.limit, iv k.within, Value.slice k.ca k.cases.length k.cc, Value.slice a172 k.states.length c172]) rfl rfl rfl) ?_
    refine gl_v rfl (o_idxS rfl rfl hiL) ?_
    refine gl_u (o_storeSA (vs := [sv k.name, iv k.limit, iv k.within, Value.slice k.ca k.cases.length k.cc, Value.slice a172 k.states.length c172]) rfl rfl rfl rfl (by rw [flat_length kndC 5 kndC_len]; simp only [List.length]; omega) (Nat.succ_pos _)) ?_
    rw [show [sv k.name, iv k.limit, iv k.within, Value.slice k.ca k.cases.length k.cc, Value.slice a172 k.states.length c172] = kndC { k with sa := a172, sc := c172, states := { s with ra := a165, rc := c165, rows := s.rows ++ [r] } :: S } by simp [kndC, hSl], splice_flat kndC 5 kndC_len _ KK i hiL]
    have hQ := (twice_row hR hk hS hr a172 a165 c172 c165).trans (if_pos h16)
    refine gl_nil ?_
    refine ge_then ?_
    refine g_seq ?_
    refine g_region ?_
    refine gl_v rfl (o_loadA (vs := [Value.slice a25 KK.length c25]) rfl rfl rfl) ?_
    refine gl_c rfl (o_call rfl (ep_some (prog_l (pa := a25) (pc := c25) (n := KK.length) (KK := KK.set i { k with sa := a172, sc := c172, states := { s with ra := a165, rc := c165, rows := s.rows ++ [r] } :: S }) (by rw [List.length_set]) [own (.slice a25 KK.length c25) 41 5 KK.length ((KK.set i { k with sa := a172, sc := c172, states := { s with ra := a165, rc := c165, rows := s.rows ++ [r] } :: S }).flatMap kndC), own (.slice a172 k.states.length c172) 44 2 k.states.length (({ s with ra := a165, rc := c165, rows := s.rows ++ [r] } :: S).flatMap staC), own (.slice a165 (s.rows.length + 1) c165) 47 4 (s.rows.length + 1) ((s.rows ++ [r]).flatMap rowC), base W] (fun h st => prgOk_set (prg_sat hA (by repeat (first | exact .head | apply Sel.tail)) st) (own_rdh (OwS.get (v := .slice a25 KK.length c25) st) (by rw [List.length_set])) (kndOk_sts ((prg_sat hA (by repeat (first | exact .head | apply Sel.tail)) st).kinds k hkm) (own_rdh (OwS.get (v := .slice a172 k.states.length c172) st) (by rw [hSl]; rfl)) (by unfold ok63; simp; omega) (fun s' hs' => (List.mem_cons.1 hs').elim (fun e => e ▸ staOk_rows (((prg_sat hA (by repeat (first | exact .head | apply Sel.tail)) st).kinds k hkm).states s hsm) (own_rdh (OwS.get (v := .slice a165 (s.rows.length + 1) c165) st) (by simp)) (by unfold ok63; simp; omega) (fun r' hr' => (List.mem_append.1 hr').elim ((((prg_sat hA (by repeat (first | exact .head | apply Sel.tail)) st).kinds k hkm).states s hsm).rows r') (fun e => List.mem_singleton.1 e ▸ (((prg_sat hA (by repeat (first | exact .head | apply Sel.tail)) st).kinds k hkm).states s hsm).rows r (List.mem_of_getElem? hr)))) (fun h' => ((prg_sat hA (by repeat (first | exact .head | apply Sel.tail)) st).kinds k hkm).states s' (by rw [hS]; exact List.mem_cons_of_mem _ h')))))) hQ) (by repeat (first | exact .nil | (apply Part.cons; · (repeat (first | exact .head | apply Sel.tail)))))) ?_
    rintro _ R ⟨_, ⟨b, a, cp, rfl, rfl⟩, rfl⟩
    try simp only [List.cons_append, List.nil_append]
    refine gl_v rfl (o_assign rfl) ?_
    refine gl_nil ?_
    refine ge_then ?_
    refine g_seq ?_
    refine g_region ?_
    refine gl_v rfl (o_move rfl) ?_
    refine gl_c rfl (o_call rfl (Where_bad hG b 40 a cp [((i + 1 : Nat) : Int), 1] (by simp)) (by repeat (first | exact .nil | (apply Part.cons; · (repeat (first | exact .head | apply Sel.tail)))))) ?_
    rintro _ R ⟨_, ⟨a3, cp3, rfl, rfl⟩, rfl⟩
    try simp only [List.cons_append, List.nil_append]
    refine gl_v rfl (o_assign rfl) ?_
    refine gl_nil ?_
    refine ge_then ?_
    refine g_seq ?_
    refine g_draw [6, 16] [] [(0, .loc), (1, .loc), (2, .loc), (3, .loc), (4, .loc), (5, .loc), (6, .eff), (7, .loc), (8, .loc), (9, .loc), (10, .loc), (11, .loc), (12, .loc), (13, .loc), (14, .loc), (15, .loc), (16, .eff), (17, .loc), (18, .loc), (19, .loc), (20, .loc), (21, .loc), (22, .loc), (23, .loc), (24, .loc), (25, .loc), (26, .loc), (27, .loc), (28, .loc), (29, .loc), (30, .loc), (31, .loc), (32, .loc), (33, .loc), (34, .loc), (35, .loc), (36, .loc), (37, .loc), (38, .loc), (39, .loc), (40, .loc), (41, .loc), (42, .loc), (43, .loc), (44, .loc), (45, .loc), (46, .loc), (47, .loc)] [cel b14 44 [sv s.name, Value.slice a165 (s.rows.length + 1) c165], intsA a3 cp3 [((i + 1 : Nat) : Int), 1]] mixed (by kernel_rfl) ?_
    first | refine go_v rfl .none rfl (o_fldS rfl) ?_ | refine go_v rfl .none rfl (o_fld rfl) ?_
    first | refine go_v rfl .none rfl (o_load rfl rfl) ?_ | refine go_v rfl .none rfl (o_loadS rfl rfl) ?_ | refine go_v rfl .none rfl (o_loadC rfl) ?_
    refine go_v rfl .none rfl (o_lenL rfl) ?_
    refine go_v rfl .none rfl (o_is (c := true) (by first | rfl | exact decide_eq_true (by omega) | (simp only [List.length]; exact decide_eq_true (by omega))) (o_eql rfl rfl)) ?_
    refine go_v rfl .none rfl (o_move rfl) ?_
    refine go_v rfl (.yes rfl rfl rfl) rfl (o_move rfl) ?_
    refine go_c rfl (.yes rfl rfl rfl) rfl (o_call rfl (Code_bad hG b 2 40 a cp) (by repeat (first | exact .nil | (apply Part.cons; · (repeat (first | exact .head | apply Sel.tail)))))) ?_
    rintro _ R ⟨_, ⟨rfl, rfl⟩, rfl⟩
    try simp only [List.cons_append, List.nil_append]
    refine ⟨(fun hG => absurd hG (by decide)), ?_⟩
    refine go_v rfl (.yes rfl rfl rfl) rfl (o_is (c := true) (by first | rfl | exact decide_eq_true (by omega) | (simp only [List.length]; exact decide_eq_true (by omega))) (o_eql rfl rfl)) ?_
    refine go_v rfl .none rfl (o_pickT rfl rfl rfl) ?_
    refine go_v rfl .none rfl (o_move rfl) ?_
    refine go_v rfl (.yes rfl rfl rfl) rfl (o_move rfl) ?_
    refine go_v rfl (.yes rfl rfl rfl) rfl (o_lenL rfl) ?_
    refine go_v rfl (.yes rfl rfl rfl) rfl (o_is (c := true) (by first | rfl | exact decide_eq_true (by omega) | (simp only [List.length]; exact decide_eq_true (by omega))) (o_eql rfl rfl)) ?_
    refine go_v rfl .none rfl (o_pickT rfl rfl rfl) ?_
    refine go_v rfl .none rfl (o_move rfl) ?_
    refine go_skip rfl (.no rfl rfl rfl) rfl ?_
    refine go_skip rfl (.no rfl rfl rfl) rfl ?_
    refine go_skip rfl (.no rfl rfl rfl) rfl ?_
    refine go_skip rfl (.no rfl rfl rfl) rfl ?_
    refine go_skip rfl (.un rfl rfl) rfl ?_
    refine go_skip rfl (.un rfl rfl) rfl ?_
    refine go_skip rfl (.un rfl rfl) rfl ?_
    refine go_skip rfl (.no rfl rfl rfl) rfl ?_
    refine go_skip rfl (.no rfl rfl rfl) rfl ?_
    refine go_skip rfl (.un rfl rfl) rfl ?_
    refine go_skip rfl (.un rfl rfl) rfl ?_
    refine go_skip rfl (.un rfl rfl) rfl ?_
    refine go_skip rfl (.un rfl rfl) rfl ?_
    refine go_skip rfl (.un rfl rfl) rfl ?_
    refine go_skip rfl (.un rfl rfl) rfl ?_
    refine go_skip rfl (.no rfl rfl rfl) rfl ?_
    refine go_skip rfl (.no rfl rfl rfl) rfl ?_
    refine go_skip rfl (.un rfl rfl) rfl ?_
    refine go_skip rfl (.un rfl rfl) rfl ?_
    refine go_skip rfl (.un rfl rfl) rfl ?_
    refine go_skip rfl (.un rfl rfl) rfl ?_
    refine go_skip rfl (.no rfl rfl rfl) rfl ?_
    refine go_skip rfl (.no rfl rfl rfl) rfl ?_
    refine go_skip rfl (.un rfl rfl) rfl ?_
    refine go_skip rfl (.un rfl rfl) rfl ?_
    refine go_skip rfl (.un rfl rfl) rfl ?_
    refine go_skip rfl (.un rfl rfl) rfl ?_
    refine go_skip rfl (.un rfl rfl) rfl ?_
    refine go_skip rfl (.un rfl rfl) rfl ?_
    refine go_skip rfl (.un rfl rfl) rfl ?_
    refine go_skip rfl (.no rfl rfl rfl) rfl ?_
    refine go_v rfl .none rfl (o_pickT rfl rfl rfl) ?_
    refine go_v rfl .none rfl (o_assign rfl) ?_
    refine go_nil ?_
    refine ge_then ?_
    refine g_ret ?_
    refine ret1 (.inl rfl) rfl rfl [base W] (⟨rfl, rfl⟩) (To.sat (by repeat (first | exact .nil | exact .done .refl | (apply To.cons; · (repeat (first | exact .head | apply Sel.tail))) | exact .done (by repeat (first | exact .refl | apply Drop.skip)))))

set_option maxRecDepth 8000 in
set_option maxHeartbeats 4000000 in
theorem CheckTwice_2b {W : World} (hG : Gok W) (pa : Option Addr) (pc : Nat) (KK : List Knd) (hA : ∀ h, base W h → PrgOk h pa pc KK) (w : Nat) (hw : w ≤ 255) (lv : Nat) (hlv : lv ≤ 255) (hR : prgF KK = none) (hL : 1 ≤ KK.length ∧ KK.length ≤ 8) (i : Nat) (hi : w % KK.length = i) (k : Knd) (hk : KK[i]? = some k) (s : Sta) (hs : k.states[0]? = some s) (hv : lv % 3 = 2) (S : List Sta) (hS : k.states = s :: S) (r : Row) (hr : s.rows[0]? = some r) (h16 : ¬ s.rows.length = 16) : FnS Tryd.prog 5 [.agg #[.slice pa KK.length pc], .int .u8 (w : Int), .int .u8 (lv : Int)] [base W] (fun u Bs => u = .bool true ∧ Bs = [base W]) := by
  refine fn_body Tryd.func5 rfl rfl rfl ?_
  intro W0 R
  simp only [List.zipIdx_cons, List.zipIdx_nil, List.map_cons, List.map_nil, Nat.zero_add, Nat.reduceAdd, List.cons_append, List.nil_append]
  obtain ⟨hb, hwb⟩ : ∃ h, base W h := ⟨hpOf W, fun _ _ => rfl⟩
  have hb0 := hA _ hwb
  have hKn := hb0.len; have hKc := hb0.rd.2
  haveI rK : RdA (.slice pa KK.length pc) (base W) KK.length (KK.flatMap kndC) := ⟨fun h => (hA _ h).rd.1⟩
  unfold ok63 at hKn
  have hiL := (List.getElem?_eq_some_iff.1 hk).1
  have hkm := List.mem_of_getElem? hk
  have hkO := hb0.kinds k hkm
  have hSn := hkO.lens; have hSc := hkO.rds.2; have hCn := hkO.lenc
  haveI rS : RdA (.slice k.sa k.states.length k.sc) (base W) k.states.length (k.states.flatMap staC) := ⟨fun h => ((hA _ h).kinds k hkm).rds.1⟩
  unfold ok63 at hSn hCn
  obtain ⟨⟨_, _, _, _, hC8, hS1, hS8⟩, hst⟩ := kind_facts hR hk
  have hR16 : s.rows.length ≤ 16 := by
    have := (staE_zero.1 ((staF_none hs).1 (hst 0 (by omega))).1).2.2
    simp at this; omega
  have hjL := (List.getElem?_eq_some_iff.1 hs).1
  have hsm := List.mem_of_getElem? hs
  have hsO := hkO.states s hsm
  have hRn := hsO.len
  haveI rR : RdA (.slice s.ra s.rows.length s.rc) (base W) s.rows.length (s.rows.flatMap rowC) := ⟨fun h => (((hA _ h).kinds k hkm).states s hsm).rd.1⟩
  unfold ok63 at hRn
  haveI rT : RdA (.slice (if k.sc = 1 then k.sa else k.sa.map (fun x : Addr => x.add (1 * 2))) (k.states.length - 1) (k.sc - 1)) (base W) (k.states.length - 1) (S.flatMap staC) := ⟨fun h => by
    have := SlR.from' (sz := 2) (i := 1) ((hA _ h).kinds k hkm).rds.1 (flat_length staC 2 staC_len k.states) (by omega) hSc
    rwa [flat_drop staC 2 staC_len k.states 1, show k.states.drop 1 = S by rw [hS]; rfl] at this⟩
  have hSl : k.states.length = S.length + 1 := by rw [hS]; rfl
  have hr0 := (List.getElem?_eq_some_iff.1 hr).1
  
  refine g_seq ?_
  refine g_region ?_
  refine gl_n rfl (o_boxA rfl) ?_
  rintro _ _ ⟨b3, rfl, rfl⟩
  refine gl_v rfl (o_assign rfl) ?_
  refine gl_nil ?_
  refine ge_then ?_
  refine g_seq ?_
  refine g_seq ?_
  refine g_region ?_
  refine gl_c rfl (o_call rfl (alive_spec hG) (by repeat (first | exact .nil | (apply Part.cons; · (repeat (first | exact .head | apply Sel.tail)))))) ?_
  rintro _ R ⟨_, ⟨rfl, rfl⟩, rfl⟩
  try simp only [List.cons_append, List.nil_append]
  refine gl_v rfl (o_is (c := false) (by rfl) (o_not rfl)) ?_
  refine gl_nil ?_
  refine ge_then ?_
  refine g_cond_false rfl ?_
  refine g_skip ?_
  refine ge_then ?_
  refine g_seq ?_
  refine g_seq ?_
  refine g_region ?_
  first | refine gl_v rfl (o_loadSA rfl rfl rfl) ?_ | refine gl_v rfl (o_loadA rfl rfl rfl) ?_
  refine gl_c rfl (o_call rfl (ep_none (prog' pa pc KK (base W) hA) hR) (by repeat (first | exact .nil | (apply Part.cons; · (repeat (first | exact .head | apply Sel.tail)))))) ?_
  rintro _ R ⟨_, ⟨rfl, rfl⟩, rfl⟩
  try simp only [List.cons_append, List.nil_append]
  refine gl_v rfl (o_neqnI rfl) ?_
  refine gl_nil ?_
  refine ge_then ?_
  refine g_cond_false rfl ?_
  refine g_skip ?_
  refine ge_then ?_
  refine g_seq ?_
  refine g_region ?_
  refine gl_n rfl (o_buildS0) ?_
  rintro _ _ ⟨b22, rfl, rfl⟩
  first | refine gl_v rfl (o_fldS rfl) ?_ | refine gl_v rfl (o_fld rfl) ?_
  first | refine gl_v rfl (o_load rfl rfl) ?_ | refine gl_v rfl (o_loadS rfl rfl) ?_ | refine gl_v rfl (o_loadC rfl) ?_
  refine gl_n rfl (o_appendS rfl rfl (by repeat (first | exact .head | apply Sel.tail)) rfl (flat_length kndC 5 kndC_len KK) (all_one (fun _ => rfl) KK) (by omega) (by unfold maxLen; omega)) ?_
  rintro _ _ ⟨a25, c25, rfl, rfl⟩
  simp only [Nat.zero_add, List.nil_append]
  refine gl_v rfl (o_build rfl rfl) ?_
  refine gl_n rfl (o_alloc) ?_
  rintro _ _ ⟨b7, rfl, rfl⟩
  first | refine gl_u (o_storeSA rfl rfl rfl rfl (by simp; omega) (by simp)) ?_ | refine gl_u (o_storeA rfl rfl rfl rfl rfl) ?_
  refine gl_nil ?_
  refine ge_then ?_
  refine g_seq ?_
  refine g_region ?_
  refine gl_v rfl (o_move rfl) ?_
  refine gl_v rfl (o_convR ((w : Nat) : Int) (wr_i64 (by omega)) rfl) ?_
  first | refine gl_v rfl (o_fldS rfl) ?_ | refine gl_v rfl (o_fld rfl) ?_
  first | refine gl_v rfl (o_load rfl rfl) ?_ | refine gl_v rfl (o_loadS rfl rfl) ?_ | refine gl_v rfl (o_loadC rfl) ?_
  refine gl_v rfl (o_lenL rfl) ?_
  refine gl_v rfl (o_remR ((i : Nat) : Int) (by rw [tmodn, hi]) rfl rfl (by omega)) ?_
  refine gl_v rfl (o_assign rfl) ?_
  refine gl_nil ?_
  refine ge_then ?_
  refine g_seq ?_
  refine g_region ?_
  first | refine gl_v rfl (o_fldS rfl) ?_ | refine gl_v rfl (o_fld rfl) ?_
  first | refine gl_v rfl (o_load rfl rfl) ?_ | refine gl_v rfl (o_loadS rfl rfl) ?_ | refine gl_v rfl (o_loadC rfl) ?_
  refine gl_v rfl (o_move rfl) ?_
  refine gl_v rfl (o_idxS rfl rfl hiL) ?_
  refine gl_v rfl (o_loadSA rfl (flat_take kndC 5 kndC_len hk) rfl) ?_
  refine gl_n rfl (o_alloc) ?_
  rintro _ _ ⟨b9, rfl, rfl⟩
  first | refine gl_u (o_storeSA rfl rfl rfl rfl (by simp; omega) (by simp)) ?_ | refine gl_u (o_storeA rfl rfl rfl rfl rfl) ?_
  refine gl_nil ?_
  refine ge_then ?_
  refine g_seq ?_
  refine g_seq ?_
  refine g_region ?_
  refine gl_v rfl (o_move rfl) ?_
  refine gl_v rfl (o_remR (2) (by rw [show (3 : Int) = ((3 : Nat) : Int) from rfl, tmodn, hv]; rfl) rfl rfl (by decide)) ?_
  refine gl_nil ?_
  refine ge_then ?_
  refine g_block ?_
  refine g_seq ?_
  refine g_region ?_
  refine gl_v rfl (o_is (c := false) (by rfl) (o_eql rfl rfl)) ?_
  refine gl_v rfl (o_assign rfl) ?_
  refine gl_nil ?_
  refine ge_then ?_
  refine g_cond_false rfl ?_
  refine g_seq ?_
  refine g_region ?_
  refine gl_v rfl (o_is (c := false) (by rfl) (o_eql rfl rfl)) ?_
  refine gl_v rfl (o_assign rfl) ?_
  refine gl_nil ?_
  refine ge_then ?_
  refine g_cond_false rfl ?_
  refine g_skip ?_
  refine ge_block ?_
  refine ge_then ?_
  refine g_seq ?_
  refine g_region ?_
  first | refine gl_v rfl (o_fldS rfl) ?_ | refine gl_v rfl (o_fld rfl) ?_
  first | refine gl_v rfl (o_load rfl rfl) ?_ | refine gl_v rfl (o_loadS rfl rfl) ?_ | refine gl_v rfl (o_loadC rfl) ?_
  refine gl_v rfl (o_idxS rfl rfl (show 0 < k.states.length by omega)) ?_
  refine gl_v rfl (o_loadSA (vs := staC s) rfl (flat_take staC 2 staC_len hs) rfl) ?_
  refine gl_n rfl (o_alloc) ?_
  rintro _ _ ⟨b14, rfl, rfl⟩
  first | refine gl_u (o_storeSA rfl rfl rfl rfl (by simp; omega) (by simp)) ?_ | refine gl_u (o_storeA rfl rfl rfl rfl rfl) ?_
  refine gl_nil ?_
  refine ge_then ?_
  refine g_seq ?_
  refine g_seq ?_
  refine g_region ?_
  first | refine gl_v rfl (o_fldS rfl) ?_ | refine gl_v rfl (o_fld rfl) ?_
  first | refine gl_v rfl (o_load rfl rfl) ?_ | refine gl_v rfl (o_loadS rfl rfl) ?_ | refine gl_v rfl (o_loadC rfl) ?_
  refine gl_v rfl (o_lenL rfl) ?_
  refine gl_v rfl (o_is (c := false) (by first | rfl | exact decide_eq_false (by omega) | (simp only [List.length]; exact decide_eq_false (by omega))) (o_eql rfl rfl)) ?_
  refine gl_nil ?_
  refine ge_then ?_
  refine g_cond_false rfl ?_
  refine g_skip ?_
  refine ge_then ?_
  refine g_seq ?_
  refine g_treeM [0, 3, 8, 9, 11] [0, 3, 8] (.stab 1 (.stab 2 (.stab 4 (.stab 5 (.stab 6 (.stab 7 (.eff 0 (.eff 3 (.eff 8 (.eff 9 (.loc 10 (.eff 11 .nil .nil)) .nil) .nil) (.eff 8 (.eff 3 (.eff 9 (.loc 10 (.eff 11 .nil .nil)) .nil) .nil) .nil)) (.eff 8 (.eff 0 (.eff 3 (.eff 9 (.loc 10 (.eff 11 .nil .nil)) .nil) .nil) .nil) .nil)))))))) [cel b14 44 (staC s), base W] mixed (by kernel_rfl) ?_
  first | refine gt_vs rfl .none rfl (o_fldS rfl) (To.sat (by repeat (first | exact .nil | exact .done .refl | (apply To.cons; · (repeat (first | exact .head | apply Sel.tail))) | exact .done (by repeat (first | exact .refl | apply Drop.skip))))) ?_ | refine gt_vs rfl .none rfl (o_fld rfl) (To.sat (by repeat (first | exact .nil | exact .done .refl | (apply To.cons; · (repeat (first | exact .head | apply Sel.tail))) | exact .done (by repeat (first | exact .refl | apply Drop.skip))))) ?_
  first | refine gt_vs rfl .none rfl (o_load rfl rfl) (To.sat (by repeat (first | exact .nil | exact .done .refl | (apply To.cons; · (repeat (first | exact .head | apply Sel.tail))) | exact .done (by repeat (first | exact .refl | apply Drop.skip))))) ?_ | refine gt_vs rfl .none rfl (o_loadS rfl rfl) (To.sat (by repeat (first | exact .nil | exact .done .refl | (apply To.cons; · (repeat (first | exact .head | apply Sel.tail))) | exact .done (by repeat (first | exact .refl | apply Drop.skip))))) ?_ | refine gt_vs rfl .none rfl (o_loadC rfl) (To.sat (by repeat (first | exact .nil | exact .done .refl | (apply To.cons; · (repeat (first | exact .head | apply Sel.tail))) | exact .done (by repeat (first | exact .refl | apply Drop.skip))))) ?_
  first | refine gt_vs rfl .none rfl (o_fldS rfl) (To.sat (by repeat (first | exact .nil | exact .done .refl | (apply To.cons; · (repeat (first | exact .head | apply Sel.tail))) | exact .done (by repeat (first | exact .refl | apply Drop.skip))))) ?_ | refine gt_vs rfl .none rfl (o_fld rfl) (To.sat (by repeat (first | exact .nil | exact .done .refl | (apply To.cons; · (repeat (first | exact .head | apply Sel.tail))) | exact .done (by repeat (first | exact .refl | apply Drop.skip))))) ?_
  first | refine gt_vs rfl .none rfl (o_load rfl rfl) (To.sat (by repeat (first | exact .nil | exact .done .refl | (apply To.cons; · (repeat (first | exact .head | apply Sel.tail))) | exact .done (by repeat (first | exact .refl | apply Drop.skip))))) ?_ | refine gt_vs rfl .none rfl (o_loadS rfl rfl) (To.sat (by repeat (first | exact .nil | exact .done .refl | (apply To.cons; · (repeat (first | exact .head | apply Sel.tail))) | exact .done (by repeat (first | exact .refl | apply Drop.skip))))) ?_ | refine gt_vs rfl .none rfl (o_loadC rfl) (To.sat (by repeat (first | exact .nil | exact .done .refl | (apply To.cons; · (repeat (first | exact .head | apply Sel.tail))) | exact .done (by repeat (first | exact .refl | apply Drop.skip))))) ?_
  refine gt_vs rfl .none rfl (o_idxS rfl rfl (show 0 < s.rows.length by omega)) (To.sat (by repeat (first | exact .nil | exact .done .refl | (apply To.cons; · (repeat (first | exact .head | apply Sel.tail))) | exact .done (by repeat (first | exact .refl | apply Drop.skip))))) ?_
  refine gt_vs rfl .none rfl (o_loadSA (vs := rowC r) rfl (flat_take rowC 4 rowC_len hr) rfl) (To.sat (by repeat (first | exact .nil | exact .done .refl | (apply To.cons; · (repeat (first | exact .head | apply Sel.tail))) | exact .done (by repeat (first | exact .refl | apply Drop.skip))))) ?_
  refine gt_alts ?_ ?_
  ·
    refine gt_n rfl .none rfl (o_buildS0) ?_
    rintro _ _ ⟨b156, rfl, rfl⟩
    refine ⟨(fun _ => (To.sat (by repeat (first | exact .nil | exact .done .refl | (apply To.cons; · (repeat (first | exact .head | apply Sel.tail))) | exact .done (by repeat (first | exact .refl | apply Drop.skip)))))), ?_⟩
    refine gt_alts ?_ ?_
    ·
      refine gt_n rfl .none rfl (o_appendS rfl rfl (by repeat (first | exact .head | apply Sel.tail)) rfl (flat_length rowC 4 rowC_len s.rows) (all_one (fun _ => rfl) s.rows) (by omega) (by unfold maxLen; omega)) ?_
      rintro _ _ ⟨a159, c159, rfl, rfl⟩
      simp only [Nat.zero_add, List.nil_append]
      refine ⟨(fun _ => (To.sat (by repeat (first | exact .nil | exact .done .refl | (apply To.cons; · (repeat (first | exact .head | apply Sel.tail))) | exact .done (by repeat (first | exact .refl | apply Drop.skip)))))), ?_⟩
      refine gt_n rfl .none rfl (o_buildS1A (vs := rowC r) rfl rfl rfl rfl) ?_
      rintro _ _ ⟨b164, rfl, rfl⟩
      refine ⟨(fun _ => (To.sat (by repeat (first | exact .nil | exact .done .refl | (apply To.cons; · (repeat (first | exact .head | apply Sel.tail))) | exact .done (by repeat (first | exact .refl | apply Drop.skip)))))), ?_⟩
      refine gt_n rfl .none rfl (o_append rfl rfl (by repeat (first | exact .nil | (apply Part.cons; · (repeat (first | exact .head | apply Sel.tail))))) rfl rfl rfl (by omega) (by unfold maxLen; omega)) ?_
      rintro _ _ ⟨a165, c165, rfl, rfl⟩
      rw [flat_one]
      refine ⟨(fun hG => absurd hG (by decide)), ?_⟩
      first | refine gt_v rfl .none rfl (o_fldS rfl) ?_ | refine gt_v rfl .none rfl (o_fld rfl) ?_
      first | refine gt_u rfl .none (o_store rfl rfl rfl rfl) (fun hG => absurd hG (by decide)) ?_ | refine gt_u rfl .none (o_storeS rfl rfl rfl (by first | assumption | omega | simp)) (fun hG => absurd hG (by decide)) ?_
      refine gt_nil ?_
      refine ge_then ?_
      refine g_seq ?_
      refine g_draw [1, 5, 7] [1] [(0, .loc), (2, .stab), (3, .stab), (4, .stab), (1, .eff), (5, .eff), (6, .loc), (7, .eff)] [cel b14 44 [sv s.name, Value.slice a165 (s.rows.length + 1) c165], cel b9 41 (kndC k), base W] mixed (by kernel_rfl) ?_
      refine go_v rfl .none rfl (o_loadA (vs := [sv s.name, Value.slice a165 (s.rows.length + 1) c165]) rfl rfl rfl) ?_
      first | refine go_vs rfl .none rfl (o_fldS rfl) (To.sat (by repeat (first | exact .nil | exact .done .refl | (apply To.cons; · (repeat (first | exact .head | apply Sel.tail))) | exact .done (by repeat (first | exact .refl | apply Drop.skip))))) ?_ | refine go_vs rfl .none rfl (o_fld rfl) (To.sat (by repeat (first | exact .nil | exact .done .refl | (apply To.cons; · (repeat (first | exact .head | apply Sel.tail))) | exact .done (by repeat (first | exact .refl | apply Drop.skip))))) ?_
      first | refine go_vs rfl .none rfl (o_load rfl rfl) (To.sat (by repeat (first | exact .nil | exact .done .refl | (apply To.cons; · (repeat (first | exact .head | apply Sel.tail))) | exact .done (by repeat (first | exact .refl | apply Drop.skip))))) ?_ | refine go_vs rfl .none rfl (o_loadS rfl rfl) (To.sat (by repeat (first | exact .nil | exact .done .refl | (apply To.cons; · (repeat (first | exact .head | apply Sel.tail))) | exact .done (by repeat (first | exact .refl | apply Drop.skip))))) ?_ | refine go_vs rfl .none rfl (o_loadC rfl) (To.sat (by repeat (first | exact .nil | exact .done .refl | (apply To.cons; · (repeat (first | exact .head | apply Sel.tail))) | exact .done (by repeat (first | exact .refl | apply Drop.skip))))) ?_
      refine go_vs rfl .none rfl (o_slFrom rfl rfl (show 1 ≤ k.states.length by omega)) (To.sat (by repeat (first | exact .nil | exact .done .refl | (apply To.cons; · (repeat (first | exact .head | apply Sel.tail))) | exact .done (by repeat (first | exact .refl | apply Drop.skip))))) ?_
      refine go_n rfl .none rfl (o_buildS1A (vs := [sv s.name, Value.slice a165 (s.rows.length + 1) c165]) rfl rfl rfl rfl) ?_
      rintro _ _ ⟨b168, rfl, rfl⟩
      refine ⟨(fun _ => (To.sat (by repeat (first | exact .nil | exact .done .refl | (apply To.cons; · (repeat (first | exact .head | apply Sel.tail))) | exact .done (by repeat (first | exact .refl | apply Drop.skip)))))), ?_⟩
      first | refine go_imp (own_lit (sz := 2) (k := 1) rfl (by decide)) ?_ | refine gt_imp (own_lit (sz := 2) (k := 1) rfl (by decide)) ?_
      refine go_n rfl .none rfl (o_appendS (news := S.flatMap staC) rfl rfl (by repeat (first | exact .head | apply Sel.tail)) rfl (by rw [flat_length staC 2 staC_len]; omega) (all_one (fun _ => rfl) S) (by omega) (by unfold maxLen; omega)) ?_
      rintro _ _ ⟨a172, c172, rfl, rfl⟩
      rw [show 1 + (k.states.length - 1) = k.states.length by omega, show [sv s.name, Value.slice a165 (s.rows.length + 1) c165] ++ S.flatMap staC = ({ s with ra := a165, rc := c165, rows := s.rows ++ [r] } :: S).flatMap staC by simp [staC]]
      refine ⟨(fun hG => absurd hG (by decide)), ?_⟩
      first | refine go_v rfl .none rfl (o_fldS rfl) ?_ | refine go_v rfl .none rfl (o_fld rfl) ?_
      first | refine go_u rfl .none (o_store rfl rfl rfl rfl) (fun hG => absurd hG (by decide)) ?_ | refine go_u rfl .none (o_storeS rfl rfl rfl (by first | assumption | omega | simp)) (fun hG => absurd hG (by decide)) ?_
      refine go_nil ?_
      refine ge_then ?_
      refine g_seq ?_
      refine g_region ?_
      first | refine gl_v rfl (o_fldS rfl) ?_ | refine gl_v rfl (o_fld rfl) ?_
      first | refine gl_v rfl (o_load rfl rfl) ?_ | refine gl_v rfl (o_loadS rfl rfl) ?_ | refine gl_v rfl (o_loadC rfl) ?_
      refine gl_v rfl (o_move rfl) ?_
      refine gl_v rfl (o_loadA (vs := [sv k.name, iv k.limit, iv k.within, Value.slice k.ca k.cases.length k.cc, Value.slice a172 k.states.length c172]) rfl rfl rfl) ?_
      refine gl_v rfl (o_idxS rfl rfl hiL) ?_
      refine gl_u (o_storeSA (vs := [sv k.name, iv k.limit, iv k.within, Value.slice k.ca k.cases.length k.cc, Value.slice a172 k.states.length c172]) rfl rfl rfl rfl (by rw [flat_length kndC 5 kndC_len]; simp only [List.length]; omega) (Nat.succ_pos _)) ?_
      rw [show [sv k.name, iv k.limit, iv k.within, Value.slice k.ca k.cases.length k.cc, Value.slice a172 k.states.length c172] = kndC { k with sa := a172, sc := c172, states := { s with ra := a165, rc := c165, rows := s.rows ++ [r] } :: S } by simp [kndC, hSl], splice_flat kndC 5 kndC_len _ KK i hiL]
      have hQ := (twice_row hR hk hS hr a172 a165 c172 c165).trans (if_neg h16)
      refine gl_nil ?_
      refine ge_then ?_
      refine g_seq ?_
      refine g_region ?_
      refine gl_v rfl (o_loadA (vs := [Value.slice a25 KK.length c25]) rfl rfl rfl) ?_
      refine gl_c rfl (o_call rfl (ep_some (prog_l (pa := a25) (pc := c25) (n := KK.length) (KK := KK.set i { k with sa := a172, sc := c172, states := { s with ra := a165, rc := c165, rows := s.rows ++ [r] } :: S }) (by rw [List.length_set]) [own (.slice a25 KK.length c25) 41 5 KK.length ((KK.set i { k with sa := a172, sc := c172, states := { s with ra := a165, rc := c165, rows := s.rows ++ [r] } :: S }).flatMap kndC), own (.slice a172 k.states.length c172) 44 2 k.states.length (({ s with ra := a165, rc := c165, rows := s.rows ++ [r] } :: S).flatMap staC), own (.slice a165 (s.rows.length + 1) c165) 47 4 (s.rows.length + 1) ((s.rows ++ [r]).flatMap rowC), base W] (fun h st => prgOk_set (prg_sat hA (by repeat (first | exact .head | apply Sel.tail)) st) (own_rdh (OwS.get (v := .slice a25 KK.length c25) st) (by rw [List.length_set])) (kndOk_sts ((prg_sat hA (by repeat (first | exact .head | apply Sel.tail)) st).kinds k hkm) (own_rdh (OwS.get (v := .slice a172 k.states.length c172) st) (by rw [hSl]; rfl)) (by unfold ok63; simp; omega) (fun s' hs' => (List.mem_cons.1 hs').elim (fun e => e ▸ staOk_rows (((prg_sat hA (by repeat (first | exact .head | apply Sel.tail)) st).kinds k hkm).states s hsm) (own_rdh (OwS.get (v := .slice a165 (s.rows.length + 1) c165) st) (by simp)) (by unfold ok63; simp; omega) (fun r' hr' => (List.mem_append.1 hr').elim ((((prg_sat hA (by repeat (first | exact .head | apply Sel.tail)) st).kinds k hkm).states s hsm).rows r') (fun e => List.mem_singleton.1 e ▸ (((prg_sat hA (by repeat (first | exact .head | apply Sel.tail)) st).kinds k hkm).states s hsm).rows r (List.mem_of_getElem? hr)))) (fun h' => ((prg_sat hA (by repeat (first | exact .head | apply Sel.tail)) st).kinds k hkm).states s' (by rw [hS]; exact List.mem_cons_of_mem _ h')))))) hQ) (by repeat (first | exact .nil | (apply Part.cons; · (repeat (first | exact .head | apply Sel.tail)))))) ?_
      rintro _ R ⟨_, ⟨b, a, cp, rfl, rfl⟩, rfl⟩
      try simp only [List.cons_append, List.nil_append]
      refine gl_v rfl (o_assign rfl) ?_
      refine gl_nil ?_
      refine ge_then ?_
      refine g_seq ?_
      refine g_region ?_
      refine gl_v rfl (o_move rfl) ?_
      refine gl_c rfl (o_call rfl (Where_bad hG b 41 a cp [((i + 1 : Nat) : Int), 1, ((s.rows.length + 1 : Nat) : Int)] (by simp)) (by repeat (first | exact .nil | (apply Part.cons; · (repeat (first | exact .head | apply Sel.tail)))))) ?_
      rintro _ R ⟨_, ⟨a3, cp3, rfl, rfl⟩, rfl⟩
      try simp only [List.cons_append, List.nil_append]
      refine gl_v rfl (o_assign rfl) ?_
      refine gl_nil ?_
      refine ge_then ?_
      refine g_seq ?_
      refine g_draw [6, 16] [] [(0, .loc), (1, .loc), (2, .loc), (3, .loc), (4, .loc), (5, .loc), (6, .eff), (7, .loc), (8, .loc), (9, .loc), (10, .loc), (11, .loc), (12, .loc), (13, .loc), (14, .loc), (15, .loc), (16, .eff), (17, .loc), (18, .loc), (19, .loc), (20, .loc), (21, .loc), (22, .loc), (23, .loc), (24, .loc), (25, .loc), (26, .loc), (27, .loc), (28, .loc), (29, .loc), (30, .loc), (31, .loc), (32, .loc), (33, .loc), (34, .loc), (35, .loc), (36, .loc), (37, .loc), (38, .loc), (39, .loc), (40, .loc), (41, .loc), (42, .loc), (43, .loc), (44, .loc), (45, .loc), (46, .loc), (47, .loc)] [cel b14 44 [sv s.name, Value.slice a165 (s.rows.length + 1) c165], intsA a3 cp3 [((i + 1 : Nat) : Int), 1, ((s.rows.length + 1 : Nat) : Int)]] mixed (by kernel_rfl) ?_
      first | refine go_v rfl .none rfl (o_fldS rfl) ?_ | refine go_v rfl .none rfl (o_fld rfl) ?_
      first | refine go_v rfl .none rfl (o_load rfl rfl) ?_ | refine go_v rfl .none rfl (o_loadS rfl rfl) ?_ | refine go_v rfl .none rfl (o_loadC rfl) ?_
      refine go_v rfl .none rfl (o_lenL rfl) ?_
      refine go_v rfl .none rfl (o_is (c := false) (by first | rfl | exact decide_eq_false (by omega) | (simp only [List.length]; exact decide_eq_false (by omega))) (o_eql rfl rfl)) ?_
      refine go_v rfl .none rfl (o_move rfl) ?_
      refine go_skip rfl (.no rfl rfl rfl) rfl ?_
      refine go_skip rfl (.no rfl rfl rfl) rfl ?_
      refine go_skip rfl (.no rfl rfl rfl) rfl ?_
      refine go_v rfl .none rfl (o_pickF rfl rfl rfl) ?_
      refine go_v rfl .none rfl (o_move rfl) ?_
      refine go_skip rfl (.no rfl rfl rfl) rfl ?_
      refine go_skip rfl (.no rfl rfl rfl) rfl ?_
      refine go_skip rfl (.no rfl rfl rfl) rfl ?_
      refine go_v rfl .none rfl (o_pickF rfl rfl rfl) ?_
      refine go_v rfl .none rfl (o_move rfl) ?_
      refine go_v rfl (.yes rfl rfl rfl) rfl (o_move rfl) ?_
      refine go_c rfl (.yes rfl rfl rfl) rfl (o_call rfl (Code_bad hG b 3 41 a cp) (by repeat (first | exact .nil | (apply Part.cons; · (repeat (first | exact .head | apply Sel.tail)))))) ?_
      rintro _ R ⟨_, ⟨rfl, rfl⟩, rfl⟩
      try simp only [List.cons_append, List.nil_append]
      refine ⟨(fun hG => absurd hG (by decide)), ?_⟩
      refine go_v rfl (.yes rfl rfl rfl) rfl (o_is (c := true) (by first | rfl | exact decide_eq_true (by omega) | (simp only [List.length]; exact decide_eq_true (by omega))) (o_eql rfl rfl)) ?_
      refine go_v rfl (.yes rfl rfl rfl) rfl (o_move rfl) ?_
      refine go_v rfl (.yes rfl rfl rfl) rfl (o_move rfl) ?_
      refine go_v rfl (.yes rfl rfl rfl) rfl (o_lenL rfl) ?_
      refine go_v rfl (.yes rfl rfl rfl) rfl (o_is (c := true) (by first | rfl | exact decide_eq_true (by omega) | (simp only [List.length]; exact decide_eq_true (by omega))) (o_eql rfl rfl)) ?_
      refine go_v rfl (.yes rfl rfl rfl) rfl (o_pickT rfl rfl rfl) ?_
      refine go_v rfl (.yes rfl rfl rfl) rfl (o_move rfl) ?_
      refine go_v rfl (.yes rfl rfl rfl) rfl (o_move rfl) ?_
      refine go_v rfl (.yes rfl rfl rfl) rfl (o_idxS rfl rfl (by simp)) ?_
      refine go_v rfl (.yes rfl rfl rfl) rfl (o_loadS rfl rfl) ?_
      refine go_v rfl (.yes rfl rfl rfl) rfl (o_move rfl) ?_
      refine go_v rfl (.yes rfl rfl rfl) rfl (o_addR ((i + 1 : Nat) : Int) (by rw [wr_i64 (by omega)]; omega) rfl rfl) ?_
      refine go_v rfl (.yes rfl rfl rfl) rfl (o_is (c := true) (by first | rfl | exact decide_eq_true (by omega) | (simp only [List.length]; exact decide_eq_true (by omega))) (o_eql rfl rfl)) ?_
      refine go_v rfl (.yes rfl rfl rfl) rfl (o_pickT rfl rfl rfl) ?_
      refine go_v rfl (.yes rfl rfl rfl) rfl (o_move rfl) ?_
      refine go_v rfl (.yes rfl rfl rfl) rfl (o_move rfl) ?_
      refine go_v rfl (.yes rfl rfl rfl) rfl (o_idxS rfl rfl (by simp)) ?_
      refine go_v rfl (.yes rfl rfl rfl) rfl (o_loadS rfl rfl) ?_
      refine go_v rfl (.yes rfl rfl rfl) rfl (o_is (c := true) (by first | rfl | exact decide_eq_true (by omega) | (simp only [List.length]; exact decide_eq_true (by omega))) (o_eql rfl rfl)) ?_
      refine go_v rfl (.yes rfl rfl rfl) rfl (o_pickT rfl rfl rfl) ?_
      refine go_v rfl (.yes rfl rfl rfl) rfl (o_move rfl) ?_
      refine go_v rfl (.yes rfl rfl rfl) rfl (o_move rfl) ?_
      refine go_v rfl (.yes rfl rfl rfl) rfl (o_idxS rfl rfl (by simp)) ?_
      refine go_v rfl (.yes rfl rfl rfl) rfl (o_loadS rfl rfl) ?_
      first | refine go_v rfl (.yes rfl rfl rfl) rfl (o_fldS rfl) ?_ | refine go_v rfl (.yes rfl rfl rfl) rfl (o_fld rfl) ?_
      first | refine go_v rfl (.yes rfl rfl rfl) rfl (o_load rfl rfl) ?_ | refine go_v rfl (.yes rfl rfl rfl) rfl (o_loadS rfl rfl) ?_ | refine go_v rfl (.yes rfl rfl rfl) rfl (o_loadC rfl) ?_
      refine go_v rfl (.yes rfl rfl rfl) rfl (o_lenL rfl) ?_
      refine go_v rfl (.yes rfl rfl rfl) rfl (o_is (c := true) (by first | rfl | exact decide_eq_true (by omega) | (simp only [List.length]; exact decide_eq_true (by omega))) (o_eql rfl rfl)) ?_
      refine go_v rfl (.yes rfl rfl rfl) rfl (o_pickT rfl rfl rfl) ?_
      refine go_v rfl .none rfl (o_pickF rfl rfl rfl) ?_
      refine go_v rfl .none rfl (o_assign rfl) ?_
      refine go_nil ?_
      refine ge_then ?_
      refine g_ret ?_
      refine ret1 (.inl rfl) rfl rfl [base W] (⟨rfl, rfl⟩) (To.sat (by repeat (first | exact .nil | exact .done .refl | (apply To.cons; · (repeat (first | exact .head | apply Sel.tail))) | exact .done (by repeat (first | exact .refl | apply Drop.skip)))))
    ·
      refine gt_n rfl .none rfl (o_buildS1A (vs := rowC r) rfl rfl rfl rfl) ?_
      rintro _ _ ⟨b164, rfl, rfl⟩
      refine ⟨(fun _ => (To.sat (by repeat (first | exact .nil | exact .done .refl | (apply To.cons; · (repeat (first | exact .head | apply Sel.tail))) | exact .done (by repeat (first | exact .refl | apply Drop.skip)))))), ?_⟩
      refine gt_n rfl .none rfl (o_appendS rfl rfl (by repeat (first | exact .head | apply Sel.tail)) rfl (flat_length rowC 4 rowC_len s.rows) (all_one (fun _ => rfl) s.rows) (by omega) (by unfold maxLen; omega)) ?_
      rintro _ _ ⟨a159, c159, rfl, rfl⟩
      simp only [Nat.zero_add, List.nil_append]
      refine ⟨(fun _ => (To.sat (by repeat (first | exact .nil | exact .done .refl | (apply To.cons; · (repeat (first | exact .head | apply Sel.tail))) | exact .done (by repeat (first | exact .refl | apply Drop.skip)))))), ?_⟩
      refine gt_n rfl .none rfl (o_append rfl rfl (by repeat (first | exact .nil | (apply Part.cons; · (repeat (first | exact .head | apply Sel.tail))))) rfl rfl rfl (by omega) (by unfold maxLen; omega)) ?_
      rintro _ _ ⟨a165, c165, rfl, rfl⟩
      rw [flat_one]
      refine ⟨(fun hG => absurd hG (by decide)), ?_⟩
      first | refine gt_v rfl .none rfl (o_fldS rfl) ?_ | refine gt_v rfl .none rfl (o_fld rfl) ?_
      first | refine gt_u rfl .none (o_store rfl rfl rfl rfl) (fun hG => absurd hG (by decide)) ?_ | refine gt_u rfl .none (o_storeS rfl rfl rfl (by first | assumption | omega | simp)) (fun hG => absurd hG (by decide)) ?_
      refine gt_nil ?_
      refine ge_then ?_
      refine g_seq ?_
      refine g_draw [1, 5, 7] [1] [(0, .loc), (2, .stab), (3, .stab), (4, .stab), (1, .eff), (5, .eff), (6, .loc), (7, .eff)] [cel b14 44 [sv s.name, Value.slice a165 (s.rows.length + 1) c165], cel b9 41 (kndC k), base W] mixed (by kernel_rfl) ?_
      refine go_v rfl .none rfl (o_loadA (vs := [sv s.name, Value.slice a165 (s.rows.length + 1) c165]) rfl rfl rfl) ?_
      first | refine go_vs rfl .none rfl (o_fldS rfl) (To.sat (by repeat (first | exact .nil | exact .done .refl | (apply To.cons; · (repeat (first | exact .head | apply Sel.tail))) | exact .done (by repeat (first | exact .refl | apply Drop.skip))))) ?_ | refine go_vs rfl .none rfl (o_fld rfl) (To.sat (by repeat (first | exact .nil | exact .done .refl | (apply To.cons; · (repeat (first | exact .head | apply Sel.tail))) | exact .done (by repeat (first | exact .refl | apply Drop.skip))))) ?_
      first | refine go_vs rfl .none rfl (o_load rfl rfl) (To.sat (by repeat (first | exact .nil | exact .done .refl | (apply To.cons; · (repeat (first | exact .head | apply Sel.tail))) | exact .done (by repeat (first | exact .refl | apply Drop.skip))))) ?_ | refine go_vs rfl .none rfl (o_loadS rfl rfl) (To.sat (by repeat (first | exact .nil | exact .done .refl | (apply To.cons; · (repeat (first | exact .head | apply Sel.tail))) | exact .done (by repeat (first | exact .refl | apply Drop.skip))))) ?_ | refine go_vs rfl .none rfl (o_loadC rfl) (To.sat (by repeat (first | exact .nil | exact .done .refl | (apply To.cons; · (repeat (first | exact .head | apply Sel.tail))) | exact .done (by repeat (first | exact .refl | apply Drop.skip))))) ?_
      refine go_vs rfl .none rfl (o_slFrom rfl rfl (show 1 ≤ k.states.length by omega)) (To.sat (by repeat (first | exact .nil | exact .done .refl | (apply To.cons; · (repeat (first | exact .head | apply Sel.tail))) | exact .done (by repeat (first | exact .refl | apply Drop.skip))))) ?_
      refine go_n rfl .none rfl (o_buildS1A (vs := [sv s.name, Value.slice a165 (s.rows.length + 1) c165]) rfl rfl rfl rfl) ?_
      rintro _ _ ⟨b168, rfl, rfl⟩
      refine ⟨(fun _ => (To.sat (by repeat (first | exact .nil | exact .done .refl | (apply To.cons; · (repeat (first | exact .head | apply Sel.tail))) | exact .done (by repeat (first | exact .refl | apply Drop.skip)))))), ?_⟩
      first | refine go_imp (own_lit (sz := 2) (k := 1) rfl (by decide)) ?_ | refine gt_imp (own_lit (sz := 2) (k := 1) rfl (by decide)) ?_
      refine go_n rfl .none rfl (o_appendS (news := S.flatMap staC) rfl rfl (by repeat (first | exact .head | apply Sel.tail)) rfl (by rw [flat_length staC 2 staC_len]; omega) (all_one (fun _ => rfl) S) (by omega) (by unfold maxLen; omega)) ?_
      rintro _ _ ⟨a172, c172, rfl, rfl⟩
      rw [show 1 + (k.states.length - 1) = k.states.length by omega, show [sv s.name, Value.slice a165 (s.rows.length + 1) c165] ++ S.flatMap staC = ({ s with ra := a165, rc := c165, rows := s.rows ++ [r] } :: S).flatMap staC by simp [staC]]
      refine ⟨(fun hG => absurd hG (by decide)), ?_⟩
      first | refine go_v rfl .none rfl (o_fldS rfl) ?_ | refine go_v rfl .none rfl (o_fld rfl) ?_
      first | refine go_u rfl .none (o_store rfl rfl rfl rfl) (fun hG => absurd hG (by decide)) ?_ | refine go_u rfl .none (o_storeS rfl rfl rfl (by first | assumption | omega | simp)) (fun hG => absurd hG (by decide)) ?_
      refine go_nil ?_
      refine ge_then ?_
      refine g_seq ?_
      refine g_region ?_
      first | refine gl_v rfl (o_fldS rfl) ?_ | refine gl_v rfl (o_fld rfl) ?_
      first | refine gl_v rfl (o_load rfl rfl) ?_ | refine gl_v rfl (o_loadS rfl rfl) ?_ | refine gl_v rfl (o_loadC rfl) ?_
      refine gl_v rfl (o_move rfl) ?_
      refine gl_v rfl (o_loadA (vs := [sv k.name, iv k.limit, iv k.within, Value.slice k.ca k.cases.length k.cc, Value.slice a172 k.states.length c172]) rfl rfl rfl) ?_
      refine gl_v rfl (o_idxS rfl rfl hiL) ?_
      refine gl_u (o_storeSA (vs := [sv k.name, iv k.limit, iv k.within, Value.slice k.ca k.cases.length k.cc, Value.slice a172 k.states.length c172]) rfl rfl rfl rfl (by rw [flat_length kndC 5 kndC_len]; simp only [List.length]; omega) (Nat.succ_pos _)) ?_
      rw [show [sv k.name, iv k.limit, iv k.within, Value.slice k.ca k.cases.length k.cc, Value.slice a172 k.states.length c172] = kndC { k with sa := a172, sc := c172, states := { s with ra := a165, rc := c165, rows := s.rows ++ [r] } :: S } by simp [kndC, hSl], splice_flat kndC 5 kndC_len _ KK i hiL]
      have hQ := (twice_row hR hk hS hr a172 a165 c172 c165).trans (if_neg h16)
      refine gl_nil ?_
      refine ge_then ?_
      refine g_seq ?_
      refine g_region ?_
      refine gl_v rfl (o_loadA (vs := [Value.slice a25 KK.length c25]) rfl rfl rfl) ?_
      refine gl_c rfl (o_call rfl (ep_some (prog_l (pa := a25) (pc := c25) (n := KK.length) (KK := KK.set i { k with sa := a172, sc := c172, states := { s with ra := a165, rc := c165, rows := s.rows ++ [r] } :: S }) (by rw [List.length_set]) [own (.slice a25 KK.length c25) 41 5 KK.length ((KK.set i { k with sa := a172, sc := c172, states := { s with ra := a165, rc := c165, rows := s.rows ++ [r] } :: S }).flatMap kndC), own (.slice a172 k.states.length c172) 44 2 k.states.length (({ s with ra := a165, rc := c165, rows := s.rows ++ [r] } :: S).flatMap staC), own (.slice a165 (s.rows.length + 1) c165) 47 4 (s.rows.length + 1) ((s.rows ++ [r]).flatMap rowC), base W] (fun h st => prgOk_set (prg_sat hA (by repeat (first | exact .head | apply Sel.tail)) st) (own_rdh (OwS.get (v := .slice a25 KK.length c25) st) (by rw [List.length_set])) (kndOk_sts ((prg_sat hA (by repeat (first | exact .head | apply Sel.tail)) st).kinds k hkm) (own_rdh (OwS.get (v := .slice a172 k.states.length c172) st) (by rw [hSl]; rfl)) (by unfold ok63; simp; omega) (fun s' hs' => (List.mem_cons.1 hs').elim (fun e => e ▸ staOk_rows (((prg_sat hA (by repeat (first | exact .head | apply Sel.tail)) st).kinds k hkm).states s hsm) (own_rdh (OwS.get (v := .slice a165 (s.rows.length + 1) c165) st) (by simp)) (by unfold ok63; simp; omega) (fun r' hr' => (List.mem_append.1 hr').elim ((((prg_sat hA (by repeat (first | exact .head | apply Sel.tail)) st).kinds k hkm).states s hsm).rows r') (fun e => List.mem_singleton.1 e ▸ (((prg_sat hA (by repeat (first | exact .head | apply Sel.tail)) st).kinds k hkm).states s hsm).rows r (List.mem_of_getElem? hr)))) (fun h' => ((prg_sat hA (by repeat (first | exact .head | apply Sel.tail)) st).kinds k hkm).states s' (by rw [hS]; exact List.mem_cons_of_mem _ h')))))) hQ) (by repeat (first | exact .nil | (apply Part.cons; · (repeat (first | exact .head | apply Sel.tail)))))) ?_
      rintro _ R ⟨_, ⟨b, a, cp, rfl, rfl⟩, rfl⟩
      try simp only [List.cons_append, List.nil_append]
      refine gl_v rfl (o_assign rfl) ?_
      refine gl_nil ?_
      refine ge_then ?_
      refine g_seq ?_
      refine g_region ?_
      refine gl_v rfl (o_move rfl) ?_
      refine gl_c rfl (o_call rfl (Where_bad hG b 41 a cp [((i + 1 : Nat) : Int), 1, ((s.rows.length + 1 : Nat) : Int)] (by simp)) (by repeat (first | exact .nil | (apply Part.cons; · (repeat (first | exact .head | apply Sel.tail)))))) ?_
      rintro _ R ⟨_, ⟨a3, cp3, rfl, rfl⟩, rfl⟩
      try simp only [List.cons_append, List.nil_append]
      refine gl_v rfl (o_assign rfl) ?_
      refine gl_nil ?_
      refine ge_then ?_
      refine g_seq ?_
      refine g_draw [6, 16] [] [(0, .loc), (1, .loc), (2, .loc), (3, .loc), (4, .loc), (5, .loc), (6, .eff), (7, .loc), (8, .loc), (9, .loc), (10, .loc), (11, .loc), (12, .loc), (13, .loc), (14, .loc), (15, .loc), (16, .eff), (17, .loc), (18, .loc), (19, .loc), (20, .loc), (21, .loc), (22, .loc), (23, .loc), (24, .loc), (25, .loc), (26, .loc), (27, .loc), (28, .loc), (29, .loc), (30, .loc), (31, .loc), (32, .loc), (33, .loc), (34, .loc), (35, .loc), (36, .loc), (37, .loc), (38, .loc), (39, .loc), (40, .loc), (41, .loc), (42, .loc), (43, .loc), (44, .loc), (45, .loc), (46, .loc), (47, .loc)] [cel b14 44 [sv s.name, Value.slice a165 (s.rows.length + 1) c165], intsA a3 cp3 [((i + 1 : Nat) : Int), 1, ((s.rows.length + 1 : Nat) : Int)]] mixed (by kernel_rfl) ?_
      first | refine go_v rfl .none rfl (o_fldS rfl) ?_ | refine go_v rfl .none rfl (o_fld rfl) ?_
      first | refine go_v rfl .none rfl (o_load rfl rfl) ?_ | refine go_v rfl .none rfl (o_loadS rfl rfl) ?_ | refine go_v rfl .none rfl (o_loadC rfl) ?_
      refine go_v rfl .none rfl (o_lenL rfl) ?_
      refine go_v rfl .none rfl (o_is (c := false) (by first | rfl | exact decide_eq_false (by omega) | (simp only [List.length]; exact decide_eq_false (by omega))) (o_eql rfl rfl)) ?_
      refine go_v rfl .none rfl (o_move rfl) ?_
      refine go_skip rfl (.no rfl rfl rfl) rfl ?_
      refine go_skip rfl (.no rfl rfl rfl) rfl ?_
      refine go_skip rfl (.no rfl rfl rfl) rfl ?_
      refine go_v rfl .none rfl (o_pickF rfl rfl rfl) ?_
      refine go_v rfl .none rfl (o_move rfl) ?_
      refine go_skip rfl (.no rfl rfl rfl) rfl ?_
      refine go_skip rfl (.no rfl rfl rfl) rfl ?_
      refine go_skip rfl (.no rfl rfl rfl) rfl ?_
      refine go_v rfl .none rfl (o_pickF rfl rfl rfl) ?_
      refine go_v rfl .none rfl (o_move rfl) ?_
      refine go_v rfl (.yes rfl rfl rfl) rfl (o_move rfl) ?_
      refine go_c rfl (.yes rfl rfl rfl) rfl (o_call rfl (Code_bad hG b 3 41 a cp) (by repeat (first | exact .nil | (apply Part.cons; · (repeat (first | exact .head | apply Sel.tail)))))) ?_
      rintro _ R ⟨_, ⟨rfl, rfl⟩, rfl⟩
      try simp only [List.cons_append, List.nil_append]
      refine ⟨(fun hG => absurd hG (by decide)), ?_⟩
      refine go_v rfl (.yes rfl rfl rfl) rfl (o_is (c := true) (by first | rfl | exact decide_eq_true (by omega) | (simp only [List.length]; exact decide_eq_true (by omega))) (o_eql rfl rfl)) ?_
      refine go_v rfl (.yes rfl rfl rfl) rfl (o_move rfl) ?_
      refine go_v rfl (.yes rfl rfl rfl) rfl (o_move rfl) ?_
      refine go_v rfl (.yes rfl rfl rfl) rfl (o_lenL rfl) ?_
      refine go_v rfl (.yes rfl rfl rfl) rfl (o_is (c := true) (by first | rfl | exact decide_eq_true (by omega) | (simp only [List.length]; exact decide_eq_true (by omega))) (o_eql rfl rfl)) ?_
      refine go_v rfl (.yes rfl rfl rfl) rfl (o_pickT rfl rfl rfl) ?_
      refine go_v rfl (.yes rfl rfl rfl) rfl (o_move rfl) ?_
      refine go_v rfl (.yes rfl rfl rfl) rfl (o_move rfl) ?_
      refine go_v rfl (.yes rfl rfl rfl) rfl (o_idxS rfl rfl (by simp)) ?_
      refine go_v rfl (.yes rfl rfl rfl) rfl (o_loadS rfl rfl) ?_
      refine go_v rfl (.yes rfl rfl rfl) rfl (o_move rfl) ?_
      refine go_v rfl (.yes rfl rfl rfl) rfl (o_addR ((i + 1 : Nat) : Int) (by rw [wr_i64 (by omega)]; omega) rfl rfl) ?_
      refine go_v rfl (.yes rfl rfl rfl) rfl (o_is (c := true) (by first | rfl | exact decide_eq_true (by omega) | (simp only [List.length]; exact decide_eq_true (by omega))) (o_eql rfl rfl)) ?_
      refine go_v rfl (.yes rfl rfl rfl) rfl (o_pickT rfl rfl rfl) ?_
      refine go_v rfl (.yes rfl rfl rfl) rfl (o_move rfl) ?_
      refine go_v rfl (.yes rfl rfl rfl) rfl (o_move rfl) ?_
      refine go_v rfl (.yes rfl rfl rfl) rfl (o_idxS rfl rfl (by simp)) ?_
      refine go_v rfl (.yes rfl rfl rfl) rfl (o_loadS rfl rfl) ?_
      refine go_v rfl (.yes rfl rfl rfl) rfl (o_is (c := true) (by first | rfl | exact decide_eq_true (by omega) | (simp only [List.length]; exact decide_eq_true (by omega))) (o_eql rfl rfl)) ?_
      refine go_v rfl (.yes rfl rfl rfl) rfl (o_pickT rfl rfl rfl) ?_
      refine go_v rfl (.yes rfl rfl rfl) rfl (o_move rfl) ?_
      refine go_v rfl (.yes rfl rfl rfl) rfl (o_move rfl) ?_
      refine go_v rfl (.yes rfl rfl rfl) rfl (o_idxS rfl rfl (by simp)) ?_
      refine go_v rfl (.yes rfl rfl rfl) rfl (o_loadS rfl rfl) ?_
      first | refine go_v rfl (.yes rfl rfl rfl) rfl (o_fldS rfl) ?_ | refine go_v rfl (.yes rfl rfl rfl) rfl (o_fld rfl) ?_
      first | refine go_v rfl (.yes rfl rfl rfl) rfl (o_load rfl rfl) ?_ | refine go_v rfl (.yes rfl rfl rfl) rfl (o_loadS rfl rfl) ?_ | refine go_v rfl (.yes rfl rfl rfl) rfl (o_loadC rfl) ?_
      refine go_v rfl (.yes rfl rfl rfl) rfl (o_lenL rfl) ?_
      refine go_v rfl (.yes rfl rfl rfl) rfl (o_is (c := true) (by first | rfl | exact decide_eq_true (by omega) | (simp only [List.length]; exact decide_eq_true (by omega))) (o_eql rfl rfl)) ?_
      refine go_v rfl (.yes rfl rfl rfl) rfl (o_pickT rfl rfl rfl) ?_
      refine go_v rfl .none rfl (o_pickF rfl rfl rfl) ?_
      refine go_v rfl .none rfl (o_assign rfl) ?_
      refine go_nil ?_
      refine ge_then ?_
      refine g_ret ?_
      refine ret1 (.inl rfl) rfl rfl [base W] (⟨rfl, rfl⟩) (To.sat (by repeat (first | exact .nil | exact .done .refl | (apply To.cons; · (repeat (first | exact .head | apply Sel.tail))) | exact .done (by repeat (first | exact .refl | apply Drop.skip)))))
  ·
    refine gt_n rfl .none rfl (o_buildS1A (vs := rowC r) rfl rfl rfl rfl) ?_
    rintro _ _ ⟨b164, rfl, rfl⟩
    refine ⟨(fun _ => (To.sat (by repeat (first | exact .nil | exact .done .refl | (apply To.cons; · (repeat (first | exact .head | apply Sel.tail))) | exact .done (by repeat (first | exact .refl | apply Drop.skip)))))), ?_⟩
    refine gt_n rfl .none rfl (o_buildS0) ?_
    rintro _ _ ⟨b156, rfl, rfl⟩
    refine ⟨(fun _ => (To.sat (by repeat (first | exact .nil | exact .done .refl | (apply To.cons; · (repeat (first | exact .head | apply Sel.tail))) | exact .done (by repeat (first | exact .refl | apply Drop.skip)))))), ?_⟩
    refine gt_n rfl .none rfl (o_appendS rfl rfl (by repeat (first | exact .head | apply Sel.tail)) rfl (flat_length rowC 4 rowC_len s.rows) (all_one (fun _ => rfl) s.rows) (by omega) (by unfold maxLen; omega)) ?_
    rintro _ _ ⟨a159, c159, rfl, rfl⟩
    simp only [Nat.zero_add, List.nil_append]
    refine ⟨(fun _ => (To.sat (by repeat (first | exact .nil | exact .done .refl | (apply To.cons; · (repeat (first | exact .head | apply Sel.tail))) | exact .done (by repeat (first | exact .refl | apply Drop.skip)))))), ?_⟩
    refine gt_n rfl .none rfl (o_append rfl rfl (by repeat (first | exact .nil | (apply Part.cons; · (repeat (first | exact .head | apply Sel.tail))))) rfl rfl rfl (by omega) (by unfold maxLen; omega)) ?_
    rintro _ _ ⟨a165, c165, rfl, rfl⟩
    rw [flat_one]
    refine ⟨(fun hG => absurd hG (by decide)), ?_⟩
    first | refine gt_v rfl .none rfl (o_fldS rfl) ?_ | refine gt_v rfl .none rfl (o_fld rfl) ?_
    first | refine gt_u rfl .none (o_store rfl rfl rfl rfl) (fun hG => absurd hG (by decide)) ?_ | refine gt_u rfl .none (o_storeS rfl rfl rfl (by first | assumption | omega | simp)) (fun hG => absurd hG (by decide)) ?_
    refine gt_nil ?_
    refine ge_then ?_
    refine g_seq ?_
    refine g_draw [1, 5, 7] [1] [(0, .loc), (2, .stab), (3, .stab), (4, .stab), (1, .eff), (5, .eff), (6, .loc), (7, .eff)] [cel b14 44 [sv s.name, Value.slice a165 (s.rows.length + 1) c165], cel b9 41 (kndC k), base W] mixed (by kernel_rfl) ?_
    refine go_v rfl .none rfl (o_loadA (vs := [sv s.name, Value.slice a165 (s.rows.length + 1) c165]) rfl rfl rfl) ?_
    first | refine go_vs rfl .none rfl (o_fldS rfl) (To.sat (by repeat (first | exact .nil | exact .done .refl | (apply To.cons; · (repeat (first | exact .head | apply Sel.tail))) | exact .done (by repeat (first | exact .refl | apply Drop.skip))))) ?_ | refine go_vs rfl .none rfl (o_fld rfl) (To.sat (by repeat (first | exact .nil | exact .done .refl | (apply To.cons; · (repeat (first | exact .head | apply Sel.tail))) | exact .done (by repeat (first | exact .refl | apply Drop.skip))))) ?_
    first | refine go_vs rfl .none rfl (o_load rfl rfl) (To.sat (by repeat (first | exact .nil | exact .done .refl | (apply To.cons; · (repeat (first | exact .head | apply Sel.tail))) | exact .done (by repeat (first | exact .refl | apply Drop.skip))))) ?_ | refine go_vs rfl .none rfl (o_loadS rfl rfl) (To.sat (by repeat (first | exact .nil | exact .done .refl | (apply To.cons; · (repeat (first | exact .head | apply Sel.tail))) | exact .done (by repeat (first | exact .refl | apply Drop.skip))))) ?_ | refine go_vs rfl .none rfl (o_loadC rfl) (To.sat (by repeat (first | exact .nil | exact .done .refl | (apply To.cons; · (repeat (first | exact .head | apply Sel.tail))) | exact .done (by repeat (first | exact .refl | apply Drop.skip))))) ?_
    refine go_vs rfl .none rfl (o_slFrom rfl rfl (show 1 ≤ k.states.length by omega)) (To.sat (by repeat (first | exact .nil | exact .done .refl | (apply To.cons; · (repeat (first | exact .head | apply Sel.tail))) | exact .done (by repeat (first | exact .refl | apply Drop.skip))))) ?_
    refine go_n rfl .none rfl (o_buildS1A (vs := [sv s.name, Value.slice a165 (s.rows.length + 1) c165]) rfl rfl rfl rfl) ?_
    rintro _ _ ⟨b168, rfl, rfl⟩
    refine ⟨(fun _ => (To.sat (by repeat (first | exact .nil | exact .done .refl | (apply To.cons; · (repeat (first | exact .head | apply Sel.tail))) | exact .done (by repeat (first | exact .refl | apply Drop.skip)))))), ?_⟩
    first | refine go_imp (own_lit (sz := 2) (k := 1) rfl (by decide)) ?_ | refine gt_imp (own_lit (sz := 2) (k := 1) rfl (by decide)) ?_
    refine go_n rfl .none rfl (o_appendS (news := S.flatMap staC) rfl rfl (by repeat (first | exact .head | apply Sel.tail)) rfl (by rw [flat_length staC 2 staC_len]; omega) (all_one (fun _ => rfl) S) (by omega) (by unfold maxLen; omega)) ?_
    rintro _ _ ⟨a172, c172, rfl, rfl⟩
    rw [show 1 + (k.states.length - 1) = k.states.length by omega, show [sv s.name, Value.slice a165 (s.rows.length + 1) c165] ++ S.flatMap staC = ({ s with ra := a165, rc := c165, rows := s.rows ++ [r] } :: S).flatMap staC by simp [staC]]
    refine ⟨(fun hG => absurd hG (by decide)), ?_⟩
    first | refine go_v rfl .none rfl (o_fldS rfl) ?_ | refine go_v rfl .none rfl (o_fld rfl) ?_
    first | refine go_u rfl .none (o_store rfl rfl rfl rfl) (fun hG => absurd hG (by decide)) ?_ | refine go_u rfl .none (o_storeS rfl rfl rfl (by first | assumption | omega | simp)) (fun hG => absurd hG (by decide)) ?_
    refine go_nil ?_
    refine ge_then ?_
    refine g_seq ?_
    refine g_region ?_
    first | refine gl_v rfl (o_fldS rfl) ?_ | refine gl_v rfl (o_fld rfl) ?_
    first | refine gl_v rfl (o_load rfl rfl) ?_ | refine gl_v rfl (o_loadS rfl rfl) ?_ | refine gl_v rfl (o_loadC rfl) ?_
    refine gl_v rfl (o_move rfl) ?_
    refine gl_v rfl (o_loadA (vs := [sv k.name, iv k.limit, iv k.within, Value.slice k.ca k.cases.length k.cc, Value.slice a172 k.states.length c172]) rfl rfl rfl) ?_
    refine gl_v rfl (o_idxS rfl rfl hiL) ?_
    refine gl_u (o_storeSA (vs := [sv k.name, iv k.limit, iv k.within, Value.slice k.ca k.cases.length k.cc, Value.slice a172 k.states.length c172]) rfl rfl rfl rfl (by rw [flat_length kndC 5 kndC_len]; simp only [List.length]; omega) (Nat.succ_pos _)) ?_
    rw [show [sv k.name, iv k.limit, iv k.within, Value.slice k.ca k.cases.length k.cc, Value.slice a172 k.states.length c172] = kndC { k with sa := a172, sc := c172, states := { s with ra := a165, rc := c165, rows := s.rows ++ [r] } :: S } by simp [kndC, hSl], splice_flat kndC 5 kndC_len _ KK i hiL]
    have hQ := (twice_row hR hk hS hr a172 a165 c172 c165).trans (if_neg h16)
    refine gl_nil ?_
    refine ge_then ?_
    refine g_seq ?_
    refine g_region ?_
    refine gl_v rfl (o_loadA (vs := [Value.slice a25 KK.length c25]) rfl rfl rfl) ?_
    refine gl_c rfl (o_call rfl (ep_some (prog_l (pa := a25) (pc := c25) (n := KK.length) (KK := KK.set i { k with sa := a172, sc := c172, states := { s with ra := a165, rc := c165, rows := s.rows ++ [r] } :: S }) (by rw [List.length_set]) [own (.slice a25 KK.length c25) 41 5 KK.length ((KK.set i { k with sa := a172, sc := c172, states := { s with ra := a165, rc := c165, rows := s.rows ++ [r] } :: S }).flatMap kndC), own (.slice a172 k.states.length c172) 44 2 k.states.length (({ s with ra := a165, rc := c165, rows := s.rows ++ [r] } :: S).flatMap staC), own (.slice a165 (s.rows.length + 1) c165) 47 4 (s.rows.length + 1) ((s.rows ++ [r]).flatMap rowC), base W] (fun h st => prgOk_set (prg_sat hA (by repeat (first | exact .head | apply Sel.tail)) st) (own_rdh (OwS.get (v := .slice a25 KK.length c25) st) (by rw [List.length_set])) (kndOk_sts ((prg_sat hA (by repeat (first | exact .head | apply Sel.tail)) st).kinds k hkm) (own_rdh (OwS.get (v := .slice a172 k.states.length c172) st) (by rw [hSl]; rfl)) (by unfold ok63; simp; omega) (fun s' hs' => (List.mem_cons.1 hs').elim (fun e => e ▸ staOk_rows (((prg_sat hA (by repeat (first | exact .head | apply Sel.tail)) st).kinds k hkm).states s hsm) (own_rdh (OwS.get (v := .slice a165 (s.rows.length + 1) c165) st) (by simp)) (by unfold ok63; simp; omega) (fun r' hr' => (List.mem_append.1 hr').elim ((((prg_sat hA (by repeat (first | exact .head | apply Sel.tail)) st).kinds k hkm).states s hsm).rows r') (fun e => List.mem_singleton.1 e ▸ (((prg_sat hA (by repeat (first | exact .head | apply Sel.tail)) st).kinds k hkm).states s hsm).rows r (List.mem_of_getElem? hr)))) (fun h' => ((prg_sat hA (by repeat (first | exact .head | apply Sel.tail)) st).kinds k hkm).states s' (by rw [hS]; exact List.mem_cons_of_mem _ h')))))) hQ) (by repeat (first | exact .nil | (apply Part.cons; · (repeat (first | exact .head | apply Sel.tail)))))) ?_
    rintro _ R ⟨_, ⟨b, a, cp, rfl, rfl⟩, rfl⟩
    try simp only [List.cons_append, List.nil_append]
    refine gl_v rfl (o_assign rfl) ?_
    refine gl_nil ?_
    refine ge_then ?_
    refine g_seq ?_
    refine g_region ?_
    refine gl_v rfl (o_move rfl) ?_
    refine gl_c rfl (o_call rfl (Where_bad hG b 41 a cp [((i + 1 : Nat) : Int), 1, ((s.rows.length + 1 : Nat) : Int)] (by simp)) (by repeat (first | exact .nil | (apply Part.cons; · (repeat (first | exact .head | apply Sel.tail)))))) ?_
    rintro _ R ⟨_, ⟨a3, cp3, rfl, rfl⟩, rfl⟩
    try simp only [List.cons_append, List.nil_append]
    refine gl_v rfl (o_assign rfl) ?_
    refine gl_nil ?_
    refine ge_then ?_
    refine g_seq ?_
    refine g_draw [6, 16] [] [(0, .loc), (1, .loc), (2, .loc), (3, .loc), (4, .loc), (5, .loc), (6, .eff), (7, .loc), (8, .loc), (9, .loc), (10, .loc), (11, .loc), (12, .loc), (13, .loc), (14, .loc), (15, .loc), (16, .eff), (17, .loc), (18, .loc), (19, .loc), (20, .loc), (21, .loc), (22, .loc), (23, .loc), (24, .loc), (25, .loc), (26, .loc), (27, .loc), (28, .loc), (29, .loc), (30, .loc), (31, .loc), (32, .loc), (33, .loc), (34, .loc), (35, .loc), (36, .loc), (37, .loc), (38, .loc), (39, .loc), (40, .loc), (41, .loc), (42, .loc), (43, .loc), (44, .loc), (45, .loc), (46, .loc), (47, .loc)] [cel b14 44 [sv s.name, Value.slice a165 (s.rows.length + 1) c165], intsA a3 cp3 [((i + 1 : Nat) : Int), 1, ((s.rows.length + 1 : Nat) : Int)]] mixed (by kernel_rfl) ?_
    first | refine go_v rfl .none rfl (o_fldS rfl) ?_ | refine go_v rfl .none rfl (o_fld rfl) ?_
    first | refine go_v rfl .none rfl (o_load rfl rfl) ?_ | refine go_v rfl .none rfl (o_loadS rfl rfl) ?_ | refine go_v rfl .none rfl (o_loadC rfl) ?_
    refine go_v rfl .none rfl (o_lenL rfl) ?_
    refine go_v rfl .none rfl (o_is (c := false) (by first | rfl | exact decide_eq_false (by omega) | (simp only [List.length]; exact decide_eq_false (by omega))) (o_eql rfl rfl)) ?_
    refine go_v rfl .none rfl (o_move rfl) ?_
    refine go_skip rfl (.no rfl rfl rfl) rfl ?_
    refine go_skip rfl (.no rfl rfl rfl) rfl ?_
    refine go_skip rfl (.no rfl rfl rfl) rfl ?_
    refine go_v rfl .none rfl (o_pickF rfl rfl rfl) ?_
    refine go_v rfl .none rfl (o_move rfl) ?_
    refine go_skip rfl (.no rfl rfl rfl) rfl ?_
    refine go_skip rfl (.no rfl rfl rfl) rfl ?_
    refine go_skip rfl (.no rfl rfl rfl) rfl ?_
    refine go_v rfl .none rfl (o_pickF rfl rfl rfl) ?_
    refine go_v rfl .none rfl (o_move rfl) ?_
    refine go_v rfl (.yes rfl rfl rfl) rfl (o_move rfl) ?_
    refine go_c rfl (.yes rfl rfl rfl) rfl (o_call rfl (Code_bad hG b 3 41 a cp) (by repeat (first | exact .nil | (apply Part.cons; · (repeat (first | exact .head | apply Sel.tail)))))) ?_
    rintro _ R ⟨_, ⟨rfl, rfl⟩, rfl⟩
    try simp only [List.cons_append, List.nil_append]
    refine ⟨(fun hG => absurd hG (by decide)), ?_⟩
    refine go_v rfl (.yes rfl rfl rfl) rfl (o_is (c := true) (by first | rfl | exact decide_eq_true (by omega) | (simp only [List.length]; exact decide_eq_true (by omega))) (o_eql rfl rfl)) ?_
    refine go_v rfl (.yes rfl rfl rfl) rfl (o_move rfl) ?_
    refine go_v rfl (.yes rfl rfl rfl) rfl (o_move rfl) ?_
    refine go_v rfl (.yes rfl rfl rfl) rfl (o_lenL rfl) ?_
    refine go_v rfl (.yes rfl rfl rfl) rfl (o_is (c := true) (by first | rfl | exact decide_eq_true (by omega) | (simp only [List.length]; exact decide_eq_true (by omega))) (o_eql rfl rfl)) ?_
    refine go_v rfl (.yes rfl rfl rfl) rfl (o_pickT rfl rfl rfl) ?_
    refine go_v rfl (.yes rfl rfl rfl) rfl (o_move rfl) ?_
    refine go_v rfl (.yes rfl rfl rfl) rfl (o_move rfl) ?_
    refine go_v rfl (.yes rfl rfl rfl) rfl (o_idxS rfl rfl (by simp)) ?_
    refine go_v rfl (.yes rfl rfl rfl) rfl (o_loadS rfl rfl) ?_
    refine go_v rfl (.yes rfl rfl rfl) rfl (o_move rfl) ?_
    refine go_v rfl (.yes rfl rfl rfl) rfl (o_addR ((i + 1 : Nat) : Int) (by rw [wr_i64 (by omega)]; omega) rfl rfl) ?_
    refine go_v rfl (.yes rfl rfl rfl) rfl (o_is (c := true) (by first | rfl | exact decide_eq_true (by omega) | (simp only [List.length]; exact decide_eq_true (by omega))) (o_eql rfl rfl)) ?_
    refine go_v rfl (.yes rfl rfl rfl) rfl (o_pickT rfl rfl rfl) ?_
    refine go_v rfl (.yes rfl rfl rfl) rfl (o_move rfl) ?_
    refine go_v rfl (.yes rfl rfl rfl) rfl (o_move rfl) ?_
    refine go_v rfl (.yes rfl rfl rfl) rfl (o_idxS rfl rfl (by simp)) ?_
    refine go_v rfl (.yes rfl rfl rfl) rfl (o_loadS rfl rfl) ?_
    refine go_v rfl (.yes rfl rfl rfl) rfl (o_is (c := true) (by first | rfl | exact decide_eq_true (by omega) | (simp only [List.length]; exact decide_eq_true (by omega))) (o_eql rfl rfl)) ?_
    refine go_v rfl (.yes rfl rfl rfl) rfl (o_pickT rfl rfl rfl) ?_
    refine go_v rfl (.yes rfl rfl rfl) rfl (o_move rfl) ?_
    refine go_v rfl (.yes rfl rfl rfl) rfl (o_move rfl) ?_
    refine go_v rfl (.yes rfl rfl rfl) rfl (o_idxS rfl rfl (by simp)) ?_
    refine go_v rfl (.yes rfl rfl rfl) rfl (o_loadS rfl rfl) ?_
    first | refine go_v rfl (.yes rfl rfl rfl) rfl (o_fldS rfl) ?_ | refine go_v rfl (.yes rfl rfl rfl) rfl (o_fld rfl) ?_
    first | refine go_v rfl (.yes rfl rfl rfl) rfl (o_load rfl rfl) ?_ | refine go_v rfl (.yes rfl rfl rfl) rfl (o_loadS rfl rfl) ?_ | refine go_v rfl (.yes rfl rfl rfl) rfl (o_loadC rfl) ?_
    refine go_v rfl (.yes rfl rfl rfl) rfl (o_lenL rfl) ?_
    refine go_v rfl (.yes rfl rfl rfl) rfl (o_is (c := true) (by first | rfl | exact decide_eq_true (by omega) | (simp only [List.length]; exact decide_eq_true (by omega))) (o_eql rfl rfl)) ?_
    refine go_v rfl (.yes rfl rfl rfl) rfl (o_pickT rfl rfl rfl) ?_
    refine go_v rfl .none rfl (o_pickF rfl rfl rfl) ?_
    refine go_v rfl .none rfl (o_assign rfl) ?_
    refine go_nil ?_
    refine ge_then ?_
    refine g_ret ?_
    refine ret1 (.inl rfl) rfl rfl [base W] (⟨rfl, rfl⟩) (To.sat (by repeat (first | exact .nil | exact .done .refl | (apply To.cons; · (repeat (first | exact .head | apply Sel.tail))) | exact .done (by repeat (first | exact .refl | apply Drop.skip)))))

theorem CheckTwice_spec {W : World} (hG : Gok W) (pa : Option Addr) (pc : Nat) (KK : List Knd) (hA : ∀ h, base W h → PrgOk h pa pc KK) (x1 x2 : Int) (g1 : 0 ≤ x1 ∧ x1 ≤ 255) (g2 : 0 ≤ x2 ∧ x2 ≤ 255) : FnS Tryd.prog 5 [.agg #[.slice pa KK.length pc], .int .u8 x1, .int .u8 x2] [base W] (fun u Bs => u = .bool true ∧ Bs = [base W]) := by
  obtain ⟨w, rfl⟩ : ∃ w : Nat, x1 = (w : Int) := ⟨x1.toNat, by omega⟩
  obtain ⟨lv, rfl⟩ : ∃ w : Nat, x2 = (w : Int) := ⟨x2.toNat, by omega⟩
  have hw : w ≤ 255 := by omega
  have hlv : lv ≤ 255 := by omega
  rcases hR : prgF KK with _ | ⟨c, ws⟩
  · have hL := prgE_zero (prgF_none.1 hR).1
    have hiL : w % KK.length < KK.length := Nat.mod_lt _ (by omega)
    obtain ⟨k, hk⟩ : ∃ k, KK[w % KK.length]? = some k := ⟨_, List.getElem?_eq_getElem hiL⟩
    obtain ⟨⟨_, _, _, _, _, hS1, hS8⟩, _⟩ := kind_facts hR hk
    obtain ⟨s, S, hS⟩ : ∃ s S, k.states = s :: S := by
      cases e : k.states with
      | nil => rw [e] at hS1; simp at hS1
      | cons s S => exact ⟨s, S, rfl⟩
    have hs : k.states[0]? = some s := by rw [hS]; rfl
    have h3 : lv % 3 = 0 ∨ lv % 3 = 1 ∨ lv % 3 = 2 := by omega
    rcases h3 with hv | hv | hv
    · by_cases h8 : KK.length = 8
      · exact CheckTwice_0a hG pa pc KK hA w hw lv hlv hR hL _ rfl k hk s hs hv h8
      · exact CheckTwice_0b hG pa pc KK hA w hw lv hlv hR hL _ rfl k hk s hs hv h8
    · by_cases h8 : k.states.length = 8
      · exact CheckTwice_1a hG pa pc KK hA w hw lv hlv hR hL _ rfl k hk s hs hv h8
      · exact CheckTwice_1b hG pa pc KK hA w hw lv hlv hR hL _ rfl k hk s hs hv h8
    · cases hr : s.rows with
      | nil => exact CheckTwice_2z hG pa pc KK hA w hw lv hlv hR hL _ rfl k hk s hs hv (by rw [hr]; rfl)
      | cons r R =>
        have hr0 : s.rows[0]? = some r := by rw [hr]; rfl
        by_cases h8 : s.rows.length = 16
        · exact CheckTwice_2a hG pa pc KK hA w hw lv hlv hR hL _ rfl k hk s hs hv S hS r hr0 h8
        · exact CheckTwice_2b hG pa pc KK hA w hw lv hlv hR hL _ rfl k hk s hs hv S hS r hr0 h8
  · exact CheckTwice_bad hG pa pc KK hA w hw lv hlv c ws hR

end Go.Proofs.YtgmdlhlmffdbhaaDoor.L
