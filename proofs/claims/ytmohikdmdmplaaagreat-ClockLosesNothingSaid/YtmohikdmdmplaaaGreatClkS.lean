/-
  ClockLosesNothing. Own work, printed in part by a program of its own.
-/
import Derived.Test.YtmohikdmdmplaaaGreatClkC
import Derived.Test.YtmohikdmdmplaaaGreatClockS
set_option linter.unusedSimpArgs false
set_option linter.unusedVariables false
set_option linter.unusedSectionVars false
namespace Go.Proofs.YtmohikdmdmplaaaGreat.L
open Go.L Go.L.Ring Go.L.Post Go.L.Clk Go.L.Whl
theorem KIds_env (X : KX) (B : CB) (L : List Int) (t : Int) (w : Wh) (hw : WI w) : FnS Tryz.prog 30 [ptr X.c 0] [envK X B L t w] (fun u Bs => ∃ a' c', u = .slice a' w.T.length c' ∧ Bs = [own (.slice a' w.T.length c') 22 1 w.T.length (w.T.map fun t => U64 t.id), envK X B L t w]) := by
  refine fns_ex (fun x _ => ?_)
  intro W0 R w' s
  refine (KIds_spec X B w hw W0 (memA X.m L t :: ringA X.r X.m (B.b + 1) B.n :: R) w' (s.imp (To.sat (by repeat (first | exact .nil | exact .done .refl | (apply To.cons; · (repeat (first | exact .head | apply Sel.tail))) | exact .done (by repeat (first | exact .refl | apply Drop.skip))))))).mono ?_
  rintro _ _ ⟨v, Bs, e, ⟨a', c', e2, rfl⟩, s⟩
  exact ⟨v, _, e, ⟨a', c', e2, rfl⟩, s.imp fun h s => Sat.tail (fun h s => ex_close () trivial (To.sat (by repeat (first | exact .nil | exact .done .refl | (apply To.cons; · (repeat (first | exact .head | apply Sel.tail))) | exact .done (by repeat (first | exact .refl | apply Drop.skip))))) h s) s⟩
def oVK : Option (Nat × CO) → Value
  | none => .pointer none
  | some q => ptr q.1 0
def oK (X : KX) (B : CB) : Option (Nat × CO) → Assn
  | none => emp
  | some q => opK X B q.1 q.2
theorem o_neqK {P : Program} {W0 : World} {n : Nat} {sl : Slots} {As : List Assn} {ty t t' : TypeId} {x y : Operand} {z : Option (Nat × CO)} [i : TPtr P t] (hx : opv sl x = some (oVK z)) (hy : opv sl y = some (.pointer none)) : OV P W0 n (.binOp .neq t x y t') ty sl As (.bool z.isSome) := by
  cases z with
  | none => exact o_neqnn hx hy
  | some q => exact o_neqPn hx hy
theorem o_eqlK {P : Program} {W0 : World} {n : Nat} {sl : Slots} {As : List Assn} {ty t t' : TypeId} {x y : Operand} {z : Option (Nat × CO)} [i : TPtr P t] (hx : opv sl x = some (oVK z)) (hy : opv sl y = some (.pointer none)) : OV P W0 n (.binOp .eql t x y t') ty sl As (.bool z.isNone) := by
  cases z with
  | none => exact o_eqlnn hx hy
  | some q => exact o_eqlPn hx hy
theorem map_sameP {α β : Type} {f : α → β} {l : List α} {p : Nat} {y : α} (h : l[p]? = some y) : (l.map f).set p (f y) = l.map f := by
  obtain ⟨hp, e⟩ := List.getElem?_eq_some_iff.1 h
  apply List.ext_getElem (by simp)
  intro i h1 h2
  rw [List.getElem_set]
  split
  · rename_i e2; subst e2; simp [e]
  · rfl

theorem s_start {X : KX} {n : Nat} {R : List Assn} : ∀ h, Sat R h → Sat (fam ((List.replicate 3 (none : XO)).map (oK X ⟨0, n⟩)) :: tlA none 0 [] :: tlA none 0 [] :: R) h := fun h s =>
  Sat.flat.2 (emp0 h (emp0 h (emp0 h (own_nil0 (e := 22) (sz := 1) h (own_nil0 (e := 22) (sz := 1) h s)))))
theorem fam_drop {X : KX} {B : CB} {xs : List XO} {p : Nat} {R : List Assn} : ∀ h, Sat (fam ((xs.map (oK X B)).set p emp) :: R) h → Sat (fam ((xs.set p none).map (oK X B)) :: R) h := fun h s => by
  rw [List.map_set]; exact s
theorem xs_app {l m : List Int} {a : Option Addr} {c : Nat} {R : List Assn} : ∀ h, Sat (own (.slice a (l.length + m.length) c) 22 1 (l.length + m.length) (l.map U64 ++ m.map U64) :: R) h → Sat (tlA a c (l ++ m) :: R) h := fun h s => by
  unfold tlA; rw [List.length_append, List.map_append]; exact s

attribute [local irreducible] opK envK doC goC tickR dueL
set_option maxRecDepth 8000 in
set_option maxHeartbeats 3000000 in
theorem loses_spec (sl : Nat) (hsl8 : sl ≤ 255) (ad : Option Addr) (cd : Nat) (s : List Int) (hs : ∀ x ∈ s, -9223372036854775808 ≤ x ∧ x ≤ 9223372036854775807) (hsl : s.length ≤ 9223372036854775807) (ap : Option Addr) (cp : Nat) (ps : List Int) (hps : ∀ x ∈ ps, 0 ≤ x ∧ x ≤ 255) (hpl : ps.length ≤ 9223372036854775807) (A : Assn) [RdA (.slice ad s.length cd) A s.length (s.map fun x : Int => Value.int .i64 x)] [RdA (.slice ap ps.length cp) A ps.length (ps.map fun x : Int => Value.int .u8 x)] : FnS Tryz.prog 6 [.int .u8 sl, .slice ad s.length cd, .slice ap ps.length cp] [A] (fun u Bs => u = .bool true ∧ Bs = [A]) := by
 refine fn_body Tryz.func6 rfl rfl rfl ?_
 intro W0 R
 simp only [List.zipIdx_cons, List.zipIdx_nil, List.map_cons, List.map_nil, Nat.zero_add, Nat.reduceAdd, List.cons_append, List.nil_append]
 obtain ⟨n, hn⟩ : ∃ n, n = 1 + sl % 4 := ⟨_, rfl⟩
 have h1 : 1 ≤ n := by omega
 have h4 : n ≤ 4 := by omega
 refine g_seq ?_
 refine g_region ?_
 refine gl_v rfl (o_assign rfl) ?_
 refine gl_nil ?_
 refine ge_then ?_
 refine g_seq ?_
 refine g_seq ?_
 refine g_region ?_
 refine gl_c rfl (o_call rfl (kalive_spec) (by repeat (first | exact .nil | (apply Part.cons; · (repeat (first | exact .head | apply Sel.tail)))))) ?_
 rintro _ R ⟨_, ⟨rfl, rfl⟩, rfl⟩
 try simp only [List.cons_append, List.nil_append]
 refine gl_v rfl (o_is (c := false) (by rfl) (o_not rfl)) ?_
 refine gl_nil ?_
 refine ge_then ?_
 refine g_cond_false rfl ?_
 refine g_skip ?_
 refine ge_then ?_
 refine g_seq ?_
 refine g_region ?_
 refine gl_v rfl (o_move rfl) ?_
 refine gl_v rfl (o_convR (sl : Int) (wr_i64 (by omega)) rfl) ?_
 refine gl_v rfl (o_remR ((sl % 4 : Nat) : Int) (tmodn sl 4) rfl rfl (by decide)) ?_
 refine gl_v rfl (o_addR ((n : Nat) : Int) (by rw [wr_i64 (by omega)]; omega) rfl rfl) ?_
 refine gl_c rfl (o_call rfl (kmade_spec n h1 (by omega)) (by repeat (first | exact .nil | (apply Part.cons; · (repeat (first | exact .head | apply Sel.tail)))))) ?_
 rintro _ R ⟨_, ⟨X, t0, rfl, rfl⟩, rfl⟩
 try simp only [List.cons_append, List.nil_append]
 refine gl_v rfl (o_assign rfl) ?_
 refine gl_nil ?_
 refine ge_then ?_
 refine g_seq ?_
 refine g_seq ?_
 refine g_region ?_
 refine gl_v rfl (o_move rfl) ?_
 refine gl_v rfl (o_eqlPn rfl rfl) ?_
 refine gl_nil ?_
 refine ge_then ?_
 refine g_cond_false rfl ?_
 refine g_skip ?_
 refine ge_then ?_
 refine g_seq ?_
 refine g_region ?_
 refine gl_n rfl (o_makeS (k := 3) rfl rfl (by unfold maxLen; omega) (by omega)) ?_
 rintro _ _ ⟨a29, c29, rfl, rfl⟩
 refine gl_v rfl (o_assign rfl) ?_
 refine gl_nil ?_
 refine ge_then ?_
 refine g_seq ?_
 refine g_region ?_
 refine gl_v rfl (o_assign rfl) ?_
 refine gl_nil ?_
 refine ge_then ?_
 refine g_seq ?_
 refine g_region ?_
 refine gl_v rfl (o_assign rfl) ?_
 refine gl_v rfl (o_assign rfl) ?_
 refine gl_nil ?_
 refine ge_then ?_
 refine g_seq ?_
 refine g_region ?_
 refine gl_n rfl (o_makeS (k := 2) rfl rfl (by unfold maxLen; omega) (by omega)) ?_
 rintro _ _ ⟨a30, c30, rfl, rfl⟩
 refine gl_v rfl (o_assign rfl) ?_
 refine gl_nil ?_
 refine ge_then ?_
 refine g_cut (fun act wo => ∃ (i N : Nat) (L : List Int) (t : Int) (w : Wh) (xs : List XO) (inn told il : List Int) (ai : Option Addr) (ci : Nat) (at' : Option Addr) (ct : Nat), LN (⟨0, n⟩ : CB) i N L w xs inn told il ∧ i ≤ 500 ∧ HasSl Tryz.f6.ntmps [(11, tl at' ct told), (10, tl ai ci inn), (12, .slice a30 2 c30), (8, .slice a29 3 c29), (7, ptr X.c 0), (2, .slice ap ps.length cp), (1, .slice ad s.length cd)] act ∧ St W0 (envK X (⟨0, n⟩ : CB) L t w :: own (.slice a29 3 c29) 29 1 3 (xs.map oVK) :: own (.slice a30 2 c30) 22 1 2 (il.map U64) :: tlA ai ci inn :: tlA at' ct told :: fam (xs.map (oK X (⟨0, n⟩ : CB))) :: A :: R) wo) ?_ ?_
 ·
  refine g_seq ?_
  refine g_imp (s_start (X := X) (n := n)) ?_
  refine g_region ?_
  refine gl_v rfl (o_assign rfl) ?_
  refine gl_nil ?_
  refine ge_then ?_
  refine g_block ?_
  refine g_loop (ι := Nat × Nat × List Int × Int × Wh × List XO × List Int × List Int × List Int × Option Addr × Nat × Option Addr × Nat) (fun x => LN (⟨0, n⟩ : CB) x.1 x.2.1 x.2.2.1 x.2.2.2.2.1 x.2.2.2.2.2.1 x.2.2.2.2.2.2.1 x.2.2.2.2.2.2.2.1 x.2.2.2.2.2.2.2.2.1 ∧ x.1 ≤ 500 ∧ x.1 ≤ ps.length) (fun x => [(13, I64 x.1), (11, tl x.2.2.2.2.2.2.2.2.2.2.2.1 x.2.2.2.2.2.2.2.2.2.2.2.2 x.2.2.2.2.2.2.2.1), (10, tl x.2.2.2.2.2.2.2.2.2.1 x.2.2.2.2.2.2.2.2.2.2.1 x.2.2.2.2.2.2.1), (9, I64 x.2.1), (12, .slice a30 2 c30), (8, .slice a29 3 c29), (7, ptr X.c 0), (2, .slice ap ps.length cp), (1, .slice ad s.length cd)]) (fun x => envK X (⟨0, n⟩ : CB) x.2.2.1 x.2.2.2.1 x.2.2.2.2.1 :: own (.slice a29 3 c29) 29 1 3 (x.2.2.2.2.2.1.map oVK) :: own (.slice a30 2 c30) 22 1 2 (x.2.2.2.2.2.2.2.2.1.map U64) :: tlA x.2.2.2.2.2.2.2.2.2.1 x.2.2.2.2.2.2.2.2.2.2.1 x.2.2.2.2.2.2.1 :: tlA x.2.2.2.2.2.2.2.2.2.2.2.1 x.2.2.2.2.2.2.2.2.2.2.2.2 x.2.2.2.2.2.2.2.1 :: fam (x.2.2.2.2.2.1.map (oK X (⟨0, n⟩ : CB))) :: A :: R) (fun x => 500 - x.1) (0, 0, List.replicate (3 + 2 * n) 0, t0, (⟨0, 0, []⟩ : Wh), List.replicate 3 none, [], [], List.replicate 2 0, none, 0, none, 0) (⟨LN.zero h1 (by omega), Nat.zero_le _, Nat.zero_le _⟩) (Keep.cons rfl (Keep.cons rfl (Keep.cons rfl (Keep.cons rfl (Keep.cons rfl (Keep.cons rfl (Keep.cons rfl (Keep.cons rfl (Keep.cons rfl (Keep.nil)))))))))) (To.sat (by repeat (first | exact .nil | exact .done .refl | (apply To.cons; · (repeat (first | exact .head | apply Sel.tail))) | exact .done (by repeat (first | exact .refl | apply Drop.skip))))) ?_
  rintro ⟨i, N, L, t, w, xs, inn, told, il, ai, ci, at', ct⟩ ⟨hS, hi, hip⟩
  replace hS : LN (⟨0, n⟩ : CB) i N L w xs inn told il := hS
  replace hi : i ≤ 500 := hi
  replace hip : i ≤ ps.length := hip
  obtain ⟨hCI, hLI, hWI, hN60, hB64, hil1, htl1⟩ := hS.env (by omega)
  have hlx := hS.lx
  have hli := hS.li
  dsimp only
  refine g_seq ?_
  refine g_seq ?_
  refine g_region ?_
  refine gl_v rfl (o_move rfl) ?_
  refine gl_v rfl (o_move rfl) ?_
  first | refine gl_v rfl (o_len rfl) ?_ | refine gl_v rfl (o_lenL rfl) ?_
  refine gl_v rfl (o_lss rfl rfl) ?_
  refine gl_v rfl (o_move rfl) ?_
  refine gl_g rfl rfl (fun hc1 => ?_) (fun hc1 => ?_) rfl
  ·
   have hc1' := hc1
   first | replace hc1' := of_decide_eq_true hc1' | replace hc1' := lt_f hc1' | replace hc1' := le_f hc1' | replace hc1' := dec_f hc1' | replace hc1' := nlt_t hc1' | replace hc1' := nle_t hc1' | replace hc1' := ndec_t hc1' | replace hc1' := ndec_f hc1' | replace hc1' := nn_t hc1' | replace hc1' := nn_f hc1' | skip
   refine gl_v rfl (o_move rfl) ?_
   refine gl_gT rfl rfl hc1 ?_
   refine gl_v rfl (o_lss rfl rfl) ?_
   refine gl_v rfl (o_pickT hc1 rfl rfl) ?_
   refine gl_nil ?_
   refine ge_then ?_
   refine g_cond rfl (fun hc2 => ?_) (fun hc2 => ?_)
   ·
    first | replace hc2 := of_decide_eq_true hc2 | replace hc2 := lt_f hc2 | replace hc2 := le_f hc2 | replace hc2 := dec_f hc2 | replace hc2 := nlt_t hc2 | replace hc2 := nle_t hc2 | replace hc2 := ndec_t hc2 | replace hc2 := ndec_f hc2 | replace hc2 := nn_t hc2 | replace hc2 := nn_f hc2 | skip
    refine g_skip ?_
    refine ge_then ?_
    refine g_seq ?_
    refine g_block ?_
    refine g_seq ?_
    have hi1 : i < ps.length := by omega
    have hi5 : i < 500 := by omega
    have hpr : 0 ≤ ps.getD i 0 ∧ ps.getD i 0 ≤ 255 := by rw [List.getD_eq_getElem?_getD, List.getElem?_eq_getElem hi1]; exact hps _ (List.getElem_mem hi1)
    obtain ⟨pn, hpn⟩ : ∃ pn : Nat, ps.getD i 0 = (pn : Int) := ⟨(ps.getD i 0).toNat, by omega⟩
    refine g_region ?_
    refine gl_v rfl (o_move rfl) ?_
    refine gl_v rfl (o_move rfl) ?_
    refine gl_v rfl (o_idxS rfl rfl (show i < ps.length by omega)) ?_
    refine gl_v rfl (o_loadS rfl (map_at (d := 0) (by omega))) ?_
    refine gl_v rfl (o_convR (p := ps.getD i 0) (pn : Int) (by rw [← hpn]; exact wr_i64 (by omega)) rfl) ?_
    refine gl_v rfl (o_remR ((pn % 3 : Nat) : Int) (tmodn pn 3) rfl rfl (by decide)) ?_
    refine gl_v rfl (o_assign rfl) ?_
    refine gl_nil ?_
    generalize hpd : pn % 3 = p
    have hp : p < 3 := by rw [← hpd]; exact Nat.mod_lt _ (by decide)
    refine ge_then ?_
    refine g_cut (fun act wo => ∃ (N : Nat) (xs : List XO) (il : List Int) (q : Nat) (co : CO), LN (⟨0, n⟩ : CB) i N L w xs inn told il ∧ xs[p]? = some (some (q, co)) ∧ HasSl Tryz.f6.ntmps [(14, I64 p), (13, I64 i), (11, tl at' ct told), (10, tl ai ci inn), (9, I64 N), (12, .slice a30 2 c30), (8, .slice a29 3 c29), (7, ptr X.c 0), (2, .slice ap ps.length cp), (1, .slice ad s.length cd)] act ∧ St W0 (envK X (⟨0, n⟩ : CB) L t w :: own (.slice a29 3 c29) 29 1 3 (xs.map oVK) :: own (.slice a30 2 c30) 22 1 2 (il.map U64) :: tlA ai ci inn :: tlA at' ct told :: fam (xs.map (oK X (⟨0, n⟩ : CB))) :: A :: R) wo) ?_ ?_
    ·
     refine g_seq ?_
     obtain ⟨x, hx⟩ : ∃ x, xs[p]? = some x := ⟨_, List.getElem?_eq_getElem (by omega)⟩
     refine g_region ?_
     refine gl_v rfl (o_move rfl) ?_
     refine gl_v rfl (o_move rfl) ?_
     refine gl_v rfl (o_idxS rfl rfl (show p < 3 by omega)) ?_
     refine gl_v rfl (o_loadS rfl (show (xs.map oVK)[p * 1]? = some (oVK x) by rw [Nat.mul_one]; exact map_at' hx)) ?_
     refine gl_v rfl (o_eqlK rfl rfl) ?_
     refine gl_nil ?_
     refine ge_then ?_
     refine g_cond rfl (fun hc3 => ?_) (fun hc3 => ?_)
     ·
      first | replace hc3 := of_decide_eq_true hc3 | replace hc3 := lt_f hc3 | replace hc3 := le_f hc3 | replace hc3 := dec_f hc3 | replace hc3 := nlt_t hc3 | replace hc3 := nle_t hc3 | replace hc3 := ndec_t hc3 | replace hc3 := ndec_f hc3 | replace hc3 := nn_t hc3 | replace hc3 := nn_f hc3 | skip
      obtain rfl : x = none := by cases x with | none => rfl | some q => cases hc3
      refine g_block ?_
      refine g_seq ?_
      refine g_region ?_
      refine gl_v rfl (o_move rfl) ?_
      refine gl_v rfl (o_eql rfl rfl) ?_
      refine gl_v rfl (o_assign rfl) ?_
      refine gl_nil ?_
      refine ge_then ?_
      refine g_cond rfl (fun hc4 => ?_) (fun hc4 => ?_)
      ·
       first | replace hc4 := of_decide_eq_true hc4 | replace hc4 := lt_f hc4 | replace hc4 := le_f hc4 | replace hc4 := dec_f hc4 | replace hc4 := nlt_t hc4 | replace hc4 := nle_t hc4 | replace hc4 := ndec_t hc4 | replace hc4 := ndec_f hc4 | replace hc4 := nn_t hc4 | replace hc4 := nn_f hc4 | skip
       have hpe : p = 2 := by omega
       refine g_fo (l := xs.map (oK X (⟨0, n⟩ : CB))) (i := p) (A := emp) (by repeat (first | exact .head | apply Sel.tail)) (map_at' (f := oK X (⟨0, n⟩ : CB)) hx) ?_
       refine g_region ?_
       refine gl_v rfl (o_move rfl) ?_
       refine gl_v rfl (o_move rfl) ?_
       refine gl_v rfl (o_move rfl) ?_
       refine gl_c rfl (o_call rfl (fns_envW (Beat_spec X (⟨0, n⟩ : CB) hB64 w hWI.now)) (by repeat (first | exact .nil | (apply Part.cons; · (repeat (first | exact .head | apply Sel.tail)))))) ?_
       rintro _ R ⟨_, ⟨q, rfl, rfl⟩, rfl⟩
       try simp only [List.cons_append, List.nil_append]
       refine gl_v rfl (o_idxS rfl rfl (show p < 3 by omega)) ?_
       refine gl_u (o_storeS rfl rfl rfl (by rw [List.length_map]; omega)) ?_
       rw [Nat.mul_one, show ptr q 0 = oVK (some (q, beatC (⟨0, n⟩ : CB) w)) from rfl, ← List.map_set]
       refine gl_nil ?_
       refine ge_imp (fs (i := p) (l := xs.map (oK X (⟨0, n⟩ : CB))) (A := opK X (⟨0, n⟩ : CB) q (beatC (⟨0, n⟩ : CB) w)) (by repeat (first | exact .head | apply Sel.tail)) (by repeat (first | exact .head | apply Sel.tail)) (by rw [List.length_map]; omega)) ?_
       rw [show ((xs.map (oK X (⟨0, n⟩ : CB))).set p (opK X (⟨0, n⟩ : CB) q (beatC (⟨0, n⟩ : CB) w))) = (xs.set p (some (q, (beatC (⟨0, n⟩ : CB) w)))).map (oK X (⟨0, n⟩ : CB)) from by rw [List.map_set]; rfl]
       have hS' := hS.beat (show xs[2]? = some none by rw [← hpe]; exact hx) q
       rw [← hpe] at hS'
       refine ge_block ?_
       exact fun act wo hsl st => ⟨N, _, il, q, _, hS', List.getElem?_set_self (by omega), hsl.keep (Keep.cons rfl (Keep.cons rfl (Keep.cons rfl (Keep.cons rfl (Keep.cons rfl (Keep.cons rfl (Keep.cons rfl (Keep.cons rfl (Keep.cons rfl (Keep.cons rfl (Keep.nil))))))))))), st.imp (To.sat (by repeat (first | exact .nil | exact .done .refl | (apply To.cons; · (repeat (first | exact .head | apply Sel.tail))) | exact .done (by repeat (first | exact .refl | apply Drop.skip)))))⟩
      ·
       first | replace hc4 := of_decide_eq_true hc4 | replace hc4 := lt_f hc4 | replace hc4 := le_f hc4 | replace hc4 := dec_f hc4 | replace hc4 := nlt_t hc4 | replace hc4 := nle_t hc4 | replace hc4 := ndec_t hc4 | replace hc4 := ndec_f hc4 | replace hc4 := nn_t hc4 | replace hc4 := nn_f hc4 | skip
       have hp2 : p < 2 := by omega
       refine g_seq ?_
       refine g_region ?_
       refine gl_v rfl (o_move rfl) ?_
       refine gl_v rfl (o_lss rfl rfl) ?_
       refine gl_v rfl (o_assign rfl) ?_
       refine gl_nil ?_
       refine ge_then ?_
       refine g_cond rfl (fun hc5 => ?_) (fun hc5 => ?_)
       ·
        first | replace hc5 := of_decide_eq_true hc5 | replace hc5 := lt_f hc5 | replace hc5 := le_f hc5 | replace hc5 := dec_f hc5 | replace hc5 := nlt_t hc5 | replace hc5 := nle_t hc5 | replace hc5 := ndec_t hc5 | replace hc5 := ndec_f hc5 | replace hc5 := nn_t hc5 | replace hc5 := nn_f hc5 | skip
        have hN : N < 60 := by omega
        refine g_seq ?_
        refine g_region ?_
        refine gl_v rfl (o_assign rfl) ?_
        refine gl_nil ?_
        refine ge_then ?_
        refine g_cut (fun act wo => ∃ d : Int, (-9223372036854775808 ≤ d ∧ d ≤ 9223372036854775807) ∧ HasSl Tryz.f6.ntmps [(15, I64 d), (14, I64 p), (13, I64 i), (11, tl at' ct told), (10, tl ai ci inn), (9, I64 N), (12, .slice a30 2 c30), (8, .slice a29 3 c29), (7, ptr X.c 0), (2, .slice ap ps.length cp), (1, .slice ad s.length cd)] act ∧ St W0 (envK X (⟨0, n⟩ : CB) L t w :: own (.slice a29 3 c29) 29 1 3 (xs.map oVK) :: own (.slice a30 2 c30) 22 1 2 (il.map U64) :: tlA ai ci inn :: tlA at' ct told :: fam (xs.map (oK X (⟨0, n⟩ : CB))) :: A :: R) wo) ?_ ?_
        ·
         refine g_seq ?_
         refine g_region ?_
         refine gl_v rfl (o_move rfl) ?_
         first | refine gl_v rfl (o_len rfl) ?_ | refine gl_v rfl (o_lenL rfl) ?_
         refine gl_v rfl (o_gtr rfl rfl) ?_
         refine gl_nil ?_
         refine ge_then ?_
         refine g_cond rfl (fun hc6 => ?_) (fun hc6 => ?_)
         ·
          first | replace hc6 := of_decide_eq_true hc6 | replace hc6 := lt_f hc6 | replace hc6 := le_f hc6 | replace hc6 := dec_f hc6 | replace hc6 := nlt_t hc6 | replace hc6 := nle_t hc6 | replace hc6 := ndec_t hc6 | replace hc6 := ndec_f hc6 | replace hc6 := nn_t hc6 | replace hc6 := nn_f hc6 | skip
          have hs0 : 0 < s.length := by omega
          refine g_region ?_
          refine gl_v rfl (o_move rfl) ?_
          refine gl_v rfl (o_move rfl) ?_
          refine gl_v rfl (o_move rfl) ?_
          first | refine gl_v rfl (o_len rfl) ?_ | refine gl_v rfl (o_lenL rfl) ?_
          refine gl_v rfl (o_remR ((N % s.length : Nat) : Int) (tmodn N s.length) rfl rfl (by omega)) ?_
          refine gl_v rfl (o_idxS rfl rfl (show N % s.length < s.length from Nat.mod_lt _ (by omega))) ?_
          refine gl_v rfl (o_loadS rfl (map_at (d := 0) (Nat.mod_lt _ (by omega)))) ?_
          refine gl_v rfl (o_assign rfl) ?_
          refine gl_nil ?_
          exact fun act wo hsl st => ⟨s.getD (N % s.length) 0, (by rw [List.getD_eq_getElem?_getD, List.getElem?_eq_getElem (Nat.mod_lt _ hs0)]; exact hs _ (List.getElem_mem _)), hsl.keep (Keep.cons rfl (Keep.cons rfl (Keep.cons rfl (Keep.cons rfl (Keep.cons rfl (Keep.cons rfl (Keep.cons rfl (Keep.cons rfl (Keep.cons rfl (Keep.cons rfl (Keep.cons rfl (Keep.nil)))))))))))), st.imp (To.sat (by repeat (first | exact .nil | exact .done .refl | (apply To.cons; · (repeat (first | exact .head | apply Sel.tail))) | exact .done (by repeat (first | exact .refl | apply Drop.skip)))))⟩
         ·
          first | replace hc6 := of_decide_eq_true hc6 | replace hc6 := lt_f hc6 | replace hc6 := le_f hc6 | replace hc6 := dec_f hc6 | replace hc6 := nlt_t hc6 | replace hc6 := nle_t hc6 | replace hc6 := ndec_t hc6 | replace hc6 := ndec_f hc6 | replace hc6 := nn_t hc6 | replace hc6 := nn_f hc6 | skip
          refine g_skip ?_
          exact fun act wo hsl st => ⟨3, by decide, hsl.keep (Keep.cons rfl (Keep.cons rfl (Keep.cons rfl (Keep.cons rfl (Keep.cons rfl (Keep.cons rfl (Keep.cons rfl (Keep.cons rfl (Keep.cons rfl (Keep.cons rfl (Keep.cons rfl (Keep.nil)))))))))))), st.imp (To.sat (by repeat (first | exact .nil | exact .done .refl | (apply To.cons; · (repeat (first | exact .head | apply Sel.tail))) | exact .done (by repeat (first | exact .refl | apply Drop.skip)))))⟩
        ·
         rintro act wo ⟨d, hd, hsl, st⟩
         refine g_of ?_ hsl st
         clear hsl st act wo
         refine g_seq ?_
         refine g_region ?_
         refine gl_v rfl (o_move rfl) ?_
         refine gl_v rfl (o_addR ((N + 1 : Nat) : Int) (by rw [wr_i64 (by omega)]; omega) rfl rfl) ?_
         refine gl_v rfl (o_assign rfl) ?_
         refine gl_nil ?_
         refine ge_then ?_
         refine g_seq ?_
         refine g_region ?_
         refine gl_v rfl (o_move rfl) ?_
         refine gl_v rfl (o_move rfl) ?_
         refine gl_v rfl (o_move rfl) ?_
         refine gl_v rfl (o_convR ((N + 1 : Nat) : Int) (wr_u64 (by omega)) rfl) ?_
         refine gl_v rfl (o_idxS rfl rfl (show p < 2 by omega)) ?_
         refine gl_u (o_storeS rfl rfl rfl (by rw [List.length_map]; omega)) ?_
         rw [Nat.mul_one, ← List.map_set]
         refine gl_nil ?_
         refine ge_then ?_
         refine g_fo (l := xs.map (oK X (⟨0, n⟩ : CB))) (i := p) (A := emp) (by repeat (first | exact .head | apply Sel.tail)) (map_at' (f := oK X (⟨0, n⟩ : CB)) hx) ?_
         refine g_draw [8, 10, 12] [8, 10] [(0, .stab), (1, .stab), (2, .stab), (3, .stab), (4, .stab), (5, .stab), (6, .stab), (7, .loc), (8, .eff), (9, .loc), (10, .eff), (11, .loc), (12, .eff)] [own (.slice a30 2 c30) 22 1 2 ((il.set p ((N + 1 : Nat) : Int)).map U64)] mixed (by kernel_rfl) ?_
         refine go_vs rfl .none rfl (o_move rfl) (To.sat (by repeat (first | exact .nil | exact .done .refl | (apply To.cons; · (repeat (first | exact .head | apply Sel.tail))) | exact .done (by repeat (first | exact .refl | apply Drop.skip))))) ?_
         refine go_vs rfl .none rfl (o_move rfl) (To.sat (by repeat (first | exact .nil | exact .done .refl | (apply To.cons; · (repeat (first | exact .head | apply Sel.tail))) | exact .done (by repeat (first | exact .refl | apply Drop.skip))))) ?_
         refine go_vs rfl .none rfl (o_move rfl) (To.sat (by repeat (first | exact .nil | exact .done .refl | (apply To.cons; · (repeat (first | exact .head | apply Sel.tail))) | exact .done (by repeat (first | exact .refl | apply Drop.skip))))) ?_
         refine go_vs rfl .none rfl (o_move rfl) (To.sat (by repeat (first | exact .nil | exact .done .refl | (apply To.cons; · (repeat (first | exact .head | apply Sel.tail))) | exact .done (by repeat (first | exact .refl | apply Drop.skip))))) ?_
         refine go_vs rfl .none rfl (o_move rfl) (To.sat (by repeat (first | exact .nil | exact .done .refl | (apply To.cons; · (repeat (first | exact .head | apply Sel.tail))) | exact .done (by repeat (first | exact .refl | apply Drop.skip))))) ?_
         refine go_vs rfl .none rfl (o_idxS rfl rfl (show p < 2 by omega)) (To.sat (by repeat (first | exact .nil | exact .done .refl | (apply To.cons; · (repeat (first | exact .head | apply Sel.tail))) | exact .done (by repeat (first | exact .refl | apply Drop.skip))))) ?_
         refine go_vs rfl .none rfl (o_loadS rfl (show ((il.set p ((N + 1 : Nat) : Int)).map U64)[p * 1]? = some (U64 ((N + 1 : Nat) : Int)) by rw [Nat.mul_one, List.getElem?_map, List.getElem?_set_self (by omega)]; rfl)) (To.sat (by repeat (first | exact .nil | exact .done .refl | (apply To.cons; · (repeat (first | exact .head | apply Sel.tail))) | exact .done (by repeat (first | exact .refl | apply Drop.skip))))) ?_
         refine go_v rfl .none rfl (o_move rfl) ?_
         refine go_c rfl .none rfl (o_call rfl (mod_spec d 40 (by decide) hd) (by repeat (first | exact .nil | (apply Part.cons; · (repeat (first | exact .head | apply Sel.tail)))))) ?_
         rintro _ R ⟨_, ⟨rfl, rfl⟩, rfl⟩
         try simp only [List.cons_append, List.nil_append]
         refine ⟨(fun _ => (To.sat (by repeat (first | exact .nil | exact .done .refl | (apply To.cons; · (repeat (first | exact .head | apply Sel.tail))) | exact .done (by repeat (first | exact .refl | apply Drop.skip)))))), ?_⟩
         refine go_v rfl .none rfl (o_addR (1 + d % 40) (wr_i64 (by omega)) rfl rfl) ?_
         refine go_c rfl .none rfl (o_call rfl (fns_env (Ask_spec X (⟨0, n⟩ : CB) ((N + 1 : Nat) : Int) (1 + d % 40) (by omega))) (by repeat (first | exact .nil | (apply Part.cons; · (repeat (first | exact .head | apply Sel.tail)))))) ?_
         rintro _ R ⟨_, ⟨q, rfl, rfl⟩, rfl⟩
         try simp only [List.cons_append, List.nil_append]
         refine ⟨(fun _ => (To.sat (by repeat (first | exact .nil | exact .done .refl | (apply To.cons; · (repeat (first | exact .head | apply Sel.tail))) | exact .done (by repeat (first | exact .refl | apply Drop.skip)))))), ?_⟩
         refine go_v rfl .none rfl (o_idxS rfl rfl (show p < 3 by omega)) ?_
         refine go_u rfl .none (o_storeS rfl rfl rfl (by rw [List.length_map]; omega)) (fun hG => absurd hG (by decide)) ?_
         rw [Nat.mul_one, show ptr q 0 = oVK (some (q, askC ((N + 1 : Nat) : Int) (1 + d % 40))) from rfl, ← List.map_set]
         refine go_nil ?_
         refine ge_imp (fs (i := p) (l := xs.map (oK X (⟨0, n⟩ : CB))) (A := opK X (⟨0, n⟩ : CB) q (askC ((N + 1 : Nat) : Int) (1 + d % 40))) (by repeat (first | exact .head | apply Sel.tail)) (by repeat (first | exact .head | apply Sel.tail)) (by rw [List.length_map]; omega)) ?_
         rw [show ((xs.map (oK X (⟨0, n⟩ : CB))).set p (opK X (⟨0, n⟩ : CB) q (askC ((N + 1 : Nat) : Int) (1 + d % 40)))) = (xs.set p (some (q, (askC ((N + 1 : Nat) : Int) (1 + d % 40))))).map (oK X (⟨0, n⟩ : CB)) from by rw [List.map_set]; rfl]
         have hS' := hS.ask hp2 hx hN (d := 1 + d % 40) (by omega) q
         refine ge_block ?_
         exact fun act wo hsl st => ⟨N + 1, _, _, q, _, hS', List.getElem?_set_self (by omega), hsl.keep (Keep.cons rfl (Keep.cons rfl (Keep.cons rfl (Keep.cons rfl (Keep.cons rfl (Keep.cons rfl (Keep.cons rfl (Keep.cons rfl (Keep.cons rfl (Keep.cons rfl (Keep.nil))))))))))), st.imp (To.sat (by repeat (first | exact .nil | exact .done .refl | (apply To.cons; · (repeat (first | exact .head | apply Sel.tail))) | exact .done (by repeat (first | exact .refl | apply Drop.skip)))))⟩
       ·
        first | replace hc5 := of_decide_eq_true hc5 | replace hc5 := lt_f hc5 | replace hc5 := le_f hc5 | replace hc5 := dec_f hc5 | replace hc5 := nlt_t hc5 | replace hc5 := nle_t hc5 | replace hc5 := ndec_t hc5 | replace hc5 := ndec_f hc5 | replace hc5 := nn_t hc5 | replace hc5 := nn_f hc5 | skip
        refine g_exit ?_
        refine ge_block_pass rfl ?_
        refine ge_then_exit ?_
        refine ge_block_exit ?_
        refine ge_then ?_
        refine g_region ?_
        refine gl_v rfl (o_move rfl) ?_
        refine gl_v rfl (o_addR ((i + 1 : Nat) : Int) (by rw [wr_i64 (by omega)]; omega) rfl rfl) ?_
        refine gl_v rfl (o_assign rfl) ?_
        refine gl_nil ?_
        refine ge_round (i + 1, N, L, _, w, xs, inn, told, il, ai, ci, at', ct) ⟨hS.up (by omega), by show i + 1 ≤ 500; omega, by show i + 1 ≤ ps.length; omega⟩ (by show 500 - (i + 1) < 500 - i; omega) (Keep.cons rfl (Keep.cons rfl (Keep.cons rfl (Keep.cons rfl (Keep.cons rfl (Keep.cons rfl (Keep.cons rfl (Keep.cons rfl (Keep.cons rfl (Keep.nil)))))))))) (To.sat (by repeat (first | exact .nil | exact .done .refl | (apply To.cons; · (repeat (first | exact .head | apply Sel.tail))) | exact .done (by repeat (first | exact .refl | apply Drop.skip)))))
     ·
      first | replace hc3 := of_decide_eq_true hc3 | replace hc3 := lt_f hc3 | replace hc3 := le_f hc3 | replace hc3 := dec_f hc3 | replace hc3 := nlt_t hc3 | replace hc3 := nle_t hc3 | replace hc3 := ndec_t hc3 | replace hc3 := ndec_f hc3 | replace hc3 := nn_t hc3 | replace hc3 := nn_f hc3 | skip
      obtain ⟨⟨q, co⟩, rfl⟩ : ∃ q, x = some q := by cases x with | none => cases hc3 | some q => exact ⟨q, rfl⟩
      refine g_skip ?_
      exact fun act wo hsl st => ⟨N, xs, il, q, co, hS, hx, hsl.keep (Keep.cons rfl (Keep.cons rfl (Keep.cons rfl (Keep.cons rfl (Keep.cons rfl (Keep.cons rfl (Keep.cons rfl (Keep.cons rfl (Keep.cons rfl (Keep.cons rfl (Keep.nil))))))))))), st.imp (To.sat (by repeat (first | exact .nil | exact .done .refl | (apply To.cons; · (repeat (first | exact .head | apply Sel.tail))) | exact .done (by repeat (first | exact .refl | apply Drop.skip)))))⟩
    ·
     rintro act wo ⟨N, xs, il, q, co, hS, hx, hsl, st⟩
     refine g_of ?_ hsl st
     clear hsl st act wo
     refine g_seq ?_
     refine g_seq ?_
     obtain ⟨hCI, hLI, hWI, hN60, hB64, hil1, htl1⟩ := hS.env (by omega)
     have hlx := hS.lx
     have hli := hS.li
     obtain ⟨hco, hls⟩ := hS.step (by omega) hp hx
     refine g_fo (l := xs.map (oK X (⟨0, n⟩ : CB))) (i := p) (A := opK X (⟨0, n⟩ : CB) q co) (by repeat (first | exact .head | apply Sel.tail)) (map_at' (f := oK X (⟨0, n⟩ : CB)) hx) ?_
     refine g_region ?_
     refine gl_v rfl (o_move rfl) ?_
     refine gl_v rfl (o_move rfl) ?_
     refine gl_v rfl (o_idxS rfl rfl (show p < 3 by omega)) ?_
     refine gl_v rfl (o_loadS rfl (show (xs.map oVK)[p * 1]? = some (ptr q 0) by rw [Nat.mul_one]; exact map_at' hx)) ?_
     refine gl_v rfl (o_nil rfl) ?_
     first | refine gl_v rfl (o_fldS rfl) ?_ | refine gl_v rfl (o_fld rfl) ?_
     refine gl_c rfl (o_call rfl (kstep_spec X (⟨0, n⟩ : CB) q L t w co hCI hLI hWI hco) (by repeat (first | exact .nil | (apply Part.cons; · (repeat (first | exact .head | apply Sel.tail)))))) ?_
     rintro _ R ⟨_, ⟨rfl, rfl⟩, rfl⟩
     try simp only [List.cons_append, List.nil_append]
     generalize (goC (⟨0, n⟩ : CB) L w co).1 = L1 at hls ⊢
     generalize (goC (⟨0, n⟩ : CB) L w co).2.1 = w1 at hls ⊢
     generalize (goC (⟨0, n⟩ : CB) L w co).2.2 = c1 at hls ⊢
     generalize (if co.over = true then t else tup t) = t1
     refine gl_v rfl (o_not rfl) ?_
     refine gl_nil ?_
     refine ge_then ?_
     refine g_cond rfl (fun hc7 => ?_) (fun hc7 => ?_)
     ·
      first | replace hc7 := of_decide_eq_true hc7 | replace hc7 := lt_f hc7 | replace hc7 := le_f hc7 | replace hc7 := dec_f hc7 | replace hc7 := nlt_t hc7 | replace hc7 := nle_t hc7 | replace hc7 := ndec_t hc7 | replace hc7 := ndec_f hc7 | replace hc7 := nn_t hc7 | replace hc7 := nn_f hc7 | skip
      have hov : c1.over = false := by simpa using hc7
      have hS' := hls.run hov
      refine g_imp (fs (i := p) (l := xs.map (oK X (⟨0, n⟩ : CB))) (A := opK X (⟨0, n⟩ : CB) q c1) (by repeat (first | exact .head | apply Sel.tail)) (by repeat (first | exact .head | apply Sel.tail)) (by rw [List.length_map]; omega)) ?_
      rw [show ((xs.map (oK X (⟨0, n⟩ : CB))).set p (opK X (⟨0, n⟩ : CB) q c1)) = (xs.set p (some (q, c1))).map (oK X (⟨0, n⟩ : CB)) from by rw [List.map_set]; rfl]
      have hov2 : (xs.set p (some (q, c1))).map oVK = xs.map oVK := by rw [List.map_set]; exact map_sameP (f := oVK) (y := some (q, co)) hx
      refine g_exit ?_
      refine ge_then_exit ?_
      refine ge_block_exit ?_
      refine ge_then ?_
      refine g_region ?_
      refine gl_v rfl (o_move rfl) ?_
      refine gl_v rfl (o_addR ((i + 1 : Nat) : Int) (by rw [wr_i64 (by omega)]; omega) rfl rfl) ?_
      refine gl_v rfl (o_assign rfl) ?_
      refine gl_nil ?_
      (first | (rw [← hov2]; skip) | skip)
      refine ge_round (i + 1, N, L1, _, w1, _, inn, told, il, ai, ci, at', ct) ⟨hS', by show i + 1 ≤ 500; omega, by show i + 1 ≤ ps.length; omega⟩ (by show 500 - (i + 1) < 500 - i; omega) (Keep.cons rfl (Keep.cons rfl (Keep.cons rfl (Keep.cons rfl (Keep.cons rfl (Keep.cons rfl (Keep.cons rfl (Keep.cons rfl (Keep.cons rfl (Keep.nil)))))))))) (To.sat (by repeat (first | exact .nil | exact .done .refl | (apply To.cons; · (repeat (first | exact .head | apply Sel.tail))) | exact .done (by repeat (first | exact .refl | apply Drop.skip)))))
     ·
      first | replace hc7 := of_decide_eq_true hc7 | replace hc7 := lt_f hc7 | replace hc7 := le_f hc7 | replace hc7 := dec_f hc7 | replace hc7 := nlt_t hc7 | replace hc7 := nle_t hc7 | replace hc7 := ndec_t hc7 | replace hc7 := ndec_f hc7 | replace hc7 := nn_t hc7 | replace hc7 := nn_f hc7 | skip
      have hov : c1.over = true := by simpa using hc7
      have h0 : c1.out ≠ 0 := by simpa [CO.over] using hov
      have hv1 : c1.out = 0 → c1.val = 0 := fun h => absurd h h0
      refine g_skip ?_
      refine ge_then ?_
      refine g_cut (fun act wo => ∃ (inn told : List Int) (ai : Option Addr) (ci : Nat) (at' : Option Addr) (ct : Nat), LN (⟨0, n⟩ : CB) (i + 1) N L1 w1 (xs.set p none) inn told il ∧ HasSl Tryz.f6.ntmps [(14, I64 p), (13, I64 i), (11, tl at' ct told), (10, tl ai ci inn), (9, I64 N), (12, .slice a30 2 c30), (8, .slice a29 3 c29), (7, ptr X.c 0), (2, .slice ap ps.length cp), (1, .slice ad s.length cd)] act ∧ St W0 (envK X (⟨0, n⟩ : CB) L1 t1 w1 :: own (.slice a29 3 c29) 29 1 3 (xs.map oVK) :: own (.slice a30 2 c30) 22 1 2 (il.map U64) :: tlA ai ci inn :: tlA at' ct told :: fam ((xs.map (oK X (⟨0, n⟩ : CB))).set p emp) :: A :: R) wo) ?_ ?_
      ·
       refine g_seq ?_
       refine g_region ?_
       refine gl_v rfl (o_move rfl) ?_
       refine gl_v rfl (o_eql rfl rfl) ?_
       refine gl_nil ?_
       refine ge_then ?_
       refine g_cond rfl (fun hc8 => ?_) (fun hc8 => ?_)
       ·
        first | replace hc8 := of_decide_eq_true hc8 | replace hc8 := lt_f hc8 | replace hc8 := le_f hc8 | replace hc8 := dec_f hc8 | replace hc8 := nlt_t hc8 | replace hc8 := nle_t hc8 | replace hc8 := ndec_t hc8 | replace hc8 := ndec_f hc8 | replace hc8 := nn_t hc8 | replace hc8 := nn_f hc8 | skip
        have hpe : p = 2 := by omega
        have hS1 := hls.bt hov hpe
        have hE1 := (hS1.env (by omega)).2.2.2.2.2.2
        simp only [List.length_append] at hE1
        have hL1 : (told ++ c1.due).length = told.length + c1.due.length := List.length_append
        have hL2 : (told ++ c1.due ++ c1.cut).length = told.length + c1.due.length + c1.cut.length := by rw [List.length_append, hL1]
        refine g_seq ?_
        refine g_region ?_
        refine gl_v rfl (o_move rfl) ?_
        refine gl_v rfl (o_move rfl) ?_
        refine gl_v rfl (o_move rfl) ?_
        refine gl_v rfl (o_idxS rfl rfl (show p < 3 by omega)) ?_
        refine gl_v rfl (o_loadS rfl (show (xs.map oVK)[p * 1]? = some (ptr q 0) by rw [Nat.mul_one]; exact map_at' hx)) ?_
        refine gl_c rfl (o_call rfl (KDue_spec X (⟨0, n⟩ : CB) q c1 hv1 (by omega)) (by repeat (first | exact .nil | (apply Part.cons; · (repeat (first | exact .head | apply Sel.tail)))))) ?_
        rintro _ R ⟨_, ⟨d1, k1, rfl, rfl⟩, rfl⟩
        try simp only [List.cons_append, List.nil_append]
        rw [show toldL c1 c1.due = c1.due by unfold toldL; rw [if_neg h0]]
        refine gl_n rfl (o_appendS rfl rfl (by repeat (first | exact .head | apply Sel.tail)) rfl (by simp) (by simp [List.all_map]; intro x _; rfl) (by omega) (by unfold maxLen; omega)) ?_
        rintro _ _ ⟨a108, c108, rfl, rfl⟩
        refine gl_imp (xs_app (l := told) (m := c1.due) (a := a108) (c := c108)) ?_
        rw [← List.length_append]
        refine gl_v rfl (o_assign rfl) ?_
        refine gl_nil ?_
        refine ge_then ?_
        refine g_seq ?_
        refine g_region ?_
        refine gl_v rfl (o_move rfl) ?_
        refine gl_v rfl (o_move rfl) ?_
        refine gl_v rfl (o_move rfl) ?_
        refine gl_v rfl (o_idxS rfl rfl (show p < 3 by omega)) ?_
        refine gl_v rfl (o_loadS rfl (show (xs.map oVK)[p * 1]? = some (ptr q 0) by rw [Nat.mul_one]; exact map_at' hx)) ?_
        refine gl_c rfl (o_call rfl (KCut_spec X (⟨0, n⟩ : CB) q c1 hv1 (by omega)) (by repeat (first | exact .nil | (apply Part.cons; · (repeat (first | exact .head | apply Sel.tail)))))) ?_
        rintro _ R ⟨_, ⟨d2, k2, rfl, rfl⟩, rfl⟩
        try simp only [List.cons_append, List.nil_append]
        rw [show toldL c1 c1.cut = c1.cut by unfold toldL; rw [if_neg h0]]
        refine gl_n rfl (o_appendS rfl rfl (by repeat (first | exact .head | apply Sel.tail)) rfl (by simp) (by simp [List.all_map]; intro x _; rfl) (by omega) (by unfold maxLen; omega)) ?_
        rintro _ _ ⟨a115, c115, rfl, rfl⟩
        refine gl_imp (xs_app (l := (told ++ c1.due)) (m := c1.cut) (a := a115) (c := c115)) ?_
        rw [← List.length_append]
        refine gl_v rfl (o_assign rfl) ?_
        refine gl_nil ?_
        refine ge_then ?_
        refine g_region ?_
        refine gl_v rfl (o_move rfl) ?_
        refine gl_v rfl (o_move rfl) ?_
        refine gl_v rfl (o_move rfl) ?_
        refine gl_v rfl (o_idxS rfl rfl (show p < 3 by omega)) ?_
        refine gl_v rfl (o_loadS rfl (show (xs.map oVK)[p * 1]? = some (ptr q 0) by rw [Nat.mul_one]; exact map_at' hx)) ?_
        refine gl_c rfl (o_call rfl (KRefused_spec X (⟨0, n⟩ : CB) q c1 hv1 (by omega)) (by repeat (first | exact .nil | (apply Part.cons; · (repeat (first | exact .head | apply Sel.tail)))))) ?_
        rintro _ R ⟨_, ⟨d3, k3, rfl, rfl⟩, rfl⟩
        try simp only [List.cons_append, List.nil_append]
        rw [show toldL c1 c1.ref = c1.ref by unfold toldL; rw [if_neg h0]]
        refine gl_n rfl (o_appendS rfl rfl (by repeat (first | exact .head | apply Sel.tail)) rfl (by simp) (by simp [List.all_map]; intro x _; rfl) (by omega) (by unfold maxLen; omega)) ?_
        rintro _ _ ⟨a122, c122, rfl, rfl⟩
        refine gl_imp (xs_app (l := (told ++ c1.due ++ c1.cut)) (m := c1.ref) (a := a122) (c := c122)) ?_
        rw [← List.length_append]
        refine gl_v rfl (o_assign rfl) ?_
        refine gl_nil ?_
        exact fun act wo hsl st => ⟨inn, _, ai, ci, a122, c122, hS1, hsl.keep (Keep.cons rfl (Keep.cons rfl (Keep.cons rfl (Keep.cons rfl (Keep.cons rfl (Keep.cons rfl (Keep.cons rfl (Keep.cons rfl (Keep.cons rfl (Keep.cons rfl (Keep.nil))))))))))), st.imp (To.sat (by repeat (first | exact .nil | exact .done .refl | (apply To.cons; · (repeat (first | exact .head | apply Sel.tail))) | exact .done (by repeat (first | exact .refl | apply Drop.skip)))))⟩
       ·
        first | replace hc8 := of_decide_eq_true hc8 | replace hc8 := lt_f hc8 | replace hc8 := le_f hc8 | replace hc8 := dec_f hc8 | replace hc8 := nlt_t hc8 | replace hc8 := nle_t hc8 | replace hc8 := ndec_t hc8 | replace hc8 := ndec_f hc8 | replace hc8 := nn_t hc8 | replace hc8 := nn_f hc8 | skip
        have hp2 : p ≠ 2 := by omega
        have hp3 : p < 2 := by omega
        have hS1 := hls.pt hov hp2
        refine g_seq ?_
        refine g_region ?_
        refine gl_v rfl (o_move rfl) ?_
        refine gl_v rfl (o_move rfl) ?_
        refine gl_v rfl (o_idxS rfl rfl (show p < 3 by omega)) ?_
        refine gl_v rfl (o_loadS rfl (show (xs.map oVK)[p * 1]? = some (ptr q 0) by rw [Nat.mul_one]; exact map_at' hx)) ?_
        refine gl_v rfl (o_nil rfl) ?_
        first | refine gl_v rfl (o_fldS rfl) ?_ | refine gl_v rfl (o_fld rfl) ?_
        refine gl_c rfl (o_call rfl (Out_op X (⟨0, n⟩ : CB) q c1 hv1) (by repeat (first | exact .nil | (apply Part.cons; · (repeat (first | exact .head | apply Sel.tail)))))) ?_
        rintro _ R ⟨_, ⟨rfl, rfl⟩, rfl⟩
        try simp only [List.cons_append, List.nil_append]
        refine gl_v rfl (o_eql rfl rfl) ?_
        refine gl_nil ?_
        refine ge_then ?_
        refine g_cond rfl (fun hc9 => ?_) (fun hc9 => ?_)
        ·
         first | replace hc9 := of_decide_eq_true hc9 | replace hc9 := lt_f hc9 | replace hc9 := le_f hc9 | replace hc9 := dec_f hc9 | replace hc9 := nlt_t hc9 | replace hc9 := nle_t hc9 | replace hc9 := ndec_t hc9 | replace hc9 := ndec_f hc9 | replace hc9 := nn_t hc9 | replace hc9 := nn_f hc9 | skip
         have ho1 : c1.out = 1 := by omega
         rw [if_pos ho1] at hS1
         refine g_region ?_
         refine gl_v rfl (o_move rfl) ?_
         refine gl_v rfl (o_move rfl) ?_
         refine gl_v rfl (o_move rfl) ?_
         refine gl_v rfl (o_idxS rfl rfl (show p < 2 by omega)) ?_
         refine gl_v rfl (o_loadS rfl (map_at (f := U64) (d := 0) (show p < il.length by omega))) ?_
         first | refine gl_n rfl (o_buildS1 rfl rfl rfl) ?_ | refine gl_n rfl (o_buildS1A rfl rfl rfl rfl) ?_ | refine gl_n rfl (o_buildS rfl rfl rfl rfl) ?_
         rintro _ _ ⟨b136, rfl, rfl⟩
         refine gl_n rfl (o_append rfl rfl (by repeat (first | exact .nil | (apply Part.cons; · (repeat (first | exact .head | apply Sel.tail))))) rfl rfl rfl (by omega) (by unfold maxLen; omega)) ?_
         rintro _ _ ⟨a137, c137, rfl, rfl⟩
         rw [show inn.length + 1 = (inn ++ [il.getD p 0]).length by simp, show inn.map U64 ++ [U64 (il.getD p 0)] = (inn ++ [il.getD p 0]).map U64 by simp]
         refine gl_v rfl (o_assign rfl) ?_
         refine gl_nil ?_
         exact fun act wo hsl st => ⟨_, told, a137, c137, at', ct, hS1, hsl.keep (Keep.cons rfl (Keep.cons rfl (Keep.cons rfl (Keep.cons rfl (Keep.cons rfl (Keep.cons rfl (Keep.cons rfl (Keep.cons rfl (Keep.cons rfl (Keep.cons rfl (Keep.nil))))))))))), st.imp (To.sat (by repeat (first | exact .nil | exact .done .refl | (apply To.cons; · (repeat (first | exact .head | apply Sel.tail))) | exact .done (by repeat (first | exact .refl | apply Drop.skip)))))⟩
        ·
         first | replace hc9 := of_decide_eq_true hc9 | replace hc9 := lt_f hc9 | replace hc9 := le_f hc9 | replace hc9 := dec_f hc9 | replace hc9 := nlt_t hc9 | replace hc9 := nle_t hc9 | replace hc9 := ndec_t hc9 | replace hc9 := ndec_f hc9 | replace hc9 := nn_t hc9 | replace hc9 := nn_f hc9 | skip
         have ho1 : ¬ c1.out = 1 := by omega
         rw [if_neg ho1] at hS1
         refine g_skip ?_
         exact fun act wo hsl st => ⟨inn, told, ai, ci, at', ct, hS1, hsl.keep (Keep.cons rfl (Keep.cons rfl (Keep.cons rfl (Keep.cons rfl (Keep.cons rfl (Keep.cons rfl (Keep.cons rfl (Keep.cons rfl (Keep.cons rfl (Keep.cons rfl (Keep.nil))))))))))), st.imp (To.sat (by repeat (first | exact .nil | exact .done .refl | (apply To.cons; · (repeat (first | exact .head | apply Sel.tail))) | exact .done (by repeat (first | exact .refl | apply Drop.skip)))))⟩
      ·
       rintro act wo ⟨inn, told, ai, ci, at', ct, hS', hsl, st⟩
       refine g_of ?_ hsl st
       clear hsl st act wo
       refine g_region ?_
       refine gl_v rfl (o_move rfl) ?_
       refine gl_v rfl (o_move rfl) ?_
       refine gl_v rfl (o_idxS rfl rfl (show p < 3 by omega)) ?_
       refine gl_u (o_storeS rfl rfl rfl (by rw [List.length_map]; omega)) ?_
       rw [Nat.mul_one, show Value.pointer none = oVK none from rfl, ← List.map_set]
       refine gl_nil ?_
       refine ge_imp (fun h s => fam_drop (X := X) (B := (⟨0, n⟩ : CB)) (xs := xs) (p := p) h (Sel.to (A := fam ((xs.map (oK X (⟨0, n⟩ : CB))).set p emp)) (by repeat (first | exact .head | apply Sel.tail)) s)) ?_
       refine ge_block ?_
       refine ge_then ?_
       refine g_region ?_
       refine gl_v rfl (o_move rfl) ?_
       refine gl_v rfl (o_addR ((i + 1 : Nat) : Int) (by rw [wr_i64 (by omega)]; omega) rfl rfl) ?_
       refine gl_v rfl (o_assign rfl) ?_
       refine gl_nil ?_
       refine ge_round (i + 1, N, L1, _, w1, _, inn, told, il, ai, ci, at', ct) ⟨hS', by show i + 1 ≤ 500; omega, by show i + 1 ≤ ps.length; omega⟩ (by show 500 - (i + 1) < 500 - i; omega) (Keep.cons rfl (Keep.cons rfl (Keep.cons rfl (Keep.cons rfl (Keep.cons rfl (Keep.cons rfl (Keep.cons rfl (Keep.cons rfl (Keep.cons rfl (Keep.nil)))))))))) (To.sat (by repeat (first | exact .nil | exact .done .refl | (apply To.cons; · (repeat (first | exact .head | apply Sel.tail))) | exact .done (by repeat (first | exact .refl | apply Drop.skip)))))
   ·
    first | replace hc2 := of_decide_eq_true hc2 | replace hc2 := lt_f hc2 | replace hc2 := le_f hc2 | replace hc2 := dec_f hc2 | replace hc2 := nlt_t hc2 | replace hc2 := nle_t hc2 | replace hc2 := ndec_t hc2 | replace hc2 := ndec_f hc2 | replace hc2 := nn_t hc2 | replace hc2 := nn_f hc2 | skip
    refine g_exit ?_
    refine ge_then_exit ?_
    refine ge_then_exit ?_
    refine ge_block_exit ?_
    exact fun act wo hsl st => ⟨i, N, L, t, w, xs, inn, told, il, ai, ci, at', ct, hS, hi, hsl.keep (Keep.cons rfl (Keep.cons rfl (Keep.cons rfl (Keep.cons rfl (Keep.cons rfl (Keep.cons rfl (Keep.cons rfl (Keep.nil)))))))), st.imp (To.sat (by repeat (first | exact .nil | exact .done .refl | (apply To.cons; · (repeat (first | exact .head | apply Sel.tail))) | exact .done (by repeat (first | exact .refl | apply Drop.skip)))))⟩
  ·
   have hc1' := hc1
   first | replace hc1' := of_decide_eq_true hc1' | replace hc1' := lt_f hc1' | replace hc1' := le_f hc1' | replace hc1' := dec_f hc1' | replace hc1' := nlt_t hc1' | replace hc1' := nle_t hc1' | replace hc1' := ndec_t hc1' | replace hc1' := ndec_f hc1' | replace hc1' := nn_t hc1' | replace hc1' := nn_f hc1' | skip
   simp only [putO]
   refine gl_gF rfl rfl hc1 rfl ?_
   refine gl_v rfl (o_pickF hc1 rfl rfl) ?_
   refine gl_nil ?_
   refine ge_then ?_
   refine g_cond_false rfl ?_
   refine g_exit ?_
   refine ge_then_exit ?_
   refine ge_then_exit ?_
   refine ge_block_exit ?_
   exact fun act wo hsl st => ⟨i, N, L, t, w, xs, inn, told, il, ai, ci, at', ct, hS, hi, hsl.keep (Keep.cons rfl (Keep.cons rfl (Keep.cons rfl (Keep.cons rfl (Keep.cons rfl (Keep.cons rfl (Keep.cons rfl (Keep.nil)))))))), st.imp (To.sat (by repeat (first | exact .nil | exact .done .refl | (apply To.cons; · (repeat (first | exact .head | apply Sel.tail))) | exact .done (by repeat (first | exact .refl | apply Drop.skip)))))⟩
 ·
  rintro act wo ⟨i, N, L, t, w, xs, inn, told, il, ai, ci, at', ct, hS, hi, hsl, st⟩
  refine g_of ?_ hsl st
  clear hsl st act wo
  refine g_seq ?_
  refine g_seq ?_
  refine g_region ?_
  refine gl_v rfl (o_assign rfl) ?_
  refine gl_nil ?_
  refine ge_then ?_
  refine g_block ?_
  refine g_loop (ι := Nat × List Int × Int × Wh × List XO × List Int × List Int × Option Addr × Nat × Option Addr × Nat) (fun x => LD (⟨0, n⟩ : CB) x.1 N x.2.1 x.2.2.2.1 x.2.2.2.2.1 x.2.2.2.2.2.1 x.2.2.2.2.2.2.1 il ∧ x.1 ≤ 3) (fun x => [(16, I64 x.1), (11, tl x.2.2.2.2.2.2.2.2.2.1 x.2.2.2.2.2.2.2.2.2.2 x.2.2.2.2.2.2.1), (10, tl x.2.2.2.2.2.2.2.1 x.2.2.2.2.2.2.2.2.1 x.2.2.2.2.2.1), (12, .slice a30 2 c30), (8, .slice a29 3 c29), (7, ptr X.c 0), (2, .slice ap ps.length cp), (1, .slice ad s.length cd)]) (fun x => envK X (⟨0, n⟩ : CB) x.2.1 x.2.2.1 x.2.2.2.1 :: own (.slice a29 3 c29) 29 1 3 (x.2.2.2.2.1.map oVK) :: own (.slice a30 2 c30) 22 1 2 (il.map U64) :: tlA x.2.2.2.2.2.2.2.1 x.2.2.2.2.2.2.2.2.1 x.2.2.2.2.2.1 :: tlA x.2.2.2.2.2.2.2.2.2.1 x.2.2.2.2.2.2.2.2.2.2 x.2.2.2.2.2.2.1 :: fam (x.2.2.2.2.1.map (oK X (⟨0, n⟩ : CB))) :: A :: R) (fun x => 3 - x.1) (0, L, t, w, xs, inn, told, ai, ci, at', ct) (⟨hS.done (by omega), Nat.zero_le _⟩) (Keep.cons rfl (Keep.cons rfl (Keep.cons rfl (Keep.cons rfl (Keep.cons rfl (Keep.cons rfl (Keep.cons rfl (Keep.cons rfl (Keep.nil))))))))) (To.sat (by repeat (first | exact .nil | exact .done .refl | (apply To.cons; · (repeat (first | exact .head | apply Sel.tail))) | exact .done (by repeat (first | exact .refl | apply Drop.skip))))) ?_
  clear hS
  rintro ⟨p, L, t, w, xs, inn, told, ai, ci, at', ct⟩ ⟨hD, hp3⟩
  replace hD : LD (⟨0, n⟩ : CB) p N L w xs inn told il := hD
  replace hp3 : p ≤ 3 := hp3
  dsimp only
  refine g_seq ?_
  refine g_seq ?_
  refine g_region ?_
  refine gl_v rfl (o_move rfl) ?_
  refine gl_v rfl (o_lss rfl rfl) ?_
  refine gl_nil ?_
  refine ge_then ?_
  refine g_cond rfl (fun hc10 => ?_) (fun hc10 => ?_)
  ·
   first | replace hc10 := of_decide_eq_true hc10 | replace hc10 := lt_f hc10 | replace hc10 := le_f hc10 | replace hc10 := dec_f hc10 | replace hc10 := nlt_t hc10 | replace hc10 := nle_t hc10 | replace hc10 := ndec_t hc10 | replace hc10 := ndec_f hc10 | replace hc10 := nn_t hc10 | replace hc10 := nn_f hc10 | skip
   have hp : p < 3 := by omega
   refine g_skip ?_
   refine ge_then ?_
   refine g_seq ?_
   refine g_block ?_
   refine g_seq ?_
   have hlx := hD.lx
   have hli := hD.li
   have hll := hD.len
   obtain ⟨x, hx⟩ : ∃ x, xs[p]? = some x := ⟨_, List.getElem?_eq_getElem (by omega)⟩
   refine g_region ?_
   refine gl_v rfl (o_move rfl) ?_
   refine gl_v rfl (o_move rfl) ?_
   refine gl_v rfl (o_idxS rfl rfl (show p < 3 by omega)) ?_
   refine gl_v rfl (o_loadS rfl (show (xs.map oVK)[p * 1]? = some (oVK x) by rw [Nat.mul_one]; exact map_at' hx)) ?_
   refine gl_v rfl (o_neqK rfl rfl) ?_
   refine gl_nil ?_
   refine ge_then ?_
   refine g_cond rfl (fun hc11 => ?_) (fun hc11 => ?_)
   ·
    first | replace hc11 := of_decide_eq_true hc11 | replace hc11 := lt_f hc11 | replace hc11 := le_f hc11 | replace hc11 := dec_f hc11 | replace hc11 := nlt_t hc11 | replace hc11 := nle_t hc11 | replace hc11 := ndec_t hc11 | replace hc11 := ndec_f hc11 | replace hc11 := nn_t hc11 | replace hc11 := nn_f hc11 | skip
    obtain ⟨⟨q, co⟩, rfl⟩ : ∃ q, x = some q := by cases x with | none => cases hc11 | some q => exact ⟨q, rfl⟩
    refine g_seq ?_
    obtain ⟨⟨e1, e2, e3, e4⟩, kk, L1, w1, c1, hrun, hlr⟩ := hD.run hp hx
    refine g_fo (l := xs.map (oK X (⟨0, n⟩ : CB))) (i := p) (A := opK X (⟨0, n⟩ : CB) q co) (by repeat (first | exact .head | apply Sel.tail)) (map_at' (f := oK X (⟨0, n⟩ : CB)) hx) ?_
    refine g_region ?_
    refine gl_v rfl (o_move rfl) ?_
    refine gl_v rfl (o_move rfl) ?_
    refine gl_v rfl (o_idxS rfl rfl (show p < 3 by omega)) ?_
    refine gl_v rfl (o_loadS rfl (show (xs.map oVK)[p * 1]? = some (ptr q 0) by rw [Nat.mul_one]; exact map_at' hx)) ?_
    refine gl_c rfl (o_call rfl (kdone_spec X (⟨0, n⟩ : CB) q L t w co e1 e2 e3 e4 kk L1 w1 c1 hrun) (by repeat (first | exact .nil | (apply Part.cons; · (repeat (first | exact .head | apply Sel.tail)))))) ?_
    rintro _ R ⟨_, ⟨t1, rfl, rfl⟩, rfl⟩
    try simp only [List.cons_append, List.nil_append]
    have h0 := hlr.out
    have hv1 : c1.out = 0 → c1.val = 0 := fun h => absurd h h0
    refine gl_nil ?_
    refine ge_then ?_
    refine g_seq ?_
    refine g_region ?_
    refine gl_v rfl (o_move rfl) ?_
    refine gl_v rfl (o_eql rfl rfl) ?_
    refine gl_nil ?_
    refine ge_then ?_
    refine g_cond rfl (fun hc12 => ?_) (fun hc12 => ?_)
    ·
     first | replace hc12 := of_decide_eq_true hc12 | replace hc12 := lt_f hc12 | replace hc12 := le_f hc12 | replace hc12 := dec_f hc12 | replace hc12 := nlt_t hc12 | replace hc12 := nle_t hc12 | replace hc12 := ndec_t hc12 | replace hc12 := ndec_f hc12 | replace hc12 := nn_t hc12 | replace hc12 := nn_f hc12 | skip
     have hpe : p = 2 := by omega
     have hD1 := hlr.bt hpe
     have hE1 := hD1.len.2
     simp only [List.length_append] at hE1
     have hL1 : (told ++ c1.due).length = told.length + c1.due.length := List.length_append
     refine g_seq ?_
     refine g_region ?_
     refine gl_v rfl (o_move rfl) ?_
     refine gl_v rfl (o_move rfl) ?_
     refine gl_v rfl (o_move rfl) ?_
     refine gl_v rfl (o_idxS rfl rfl (show p < 3 by omega)) ?_
     refine gl_v rfl (o_loadS rfl (show (xs.map oVK)[p * 1]? = some (ptr q 0) by rw [Nat.mul_one]; exact map_at' hx)) ?_
     refine gl_c rfl (o_call rfl (KDue_spec X (⟨0, n⟩ : CB) q c1 hv1 (by omega)) (by repeat (first | exact .nil | (apply Part.cons; · (repeat (first | exact .head | apply Sel.tail)))))) ?_
     rintro _ R ⟨_, ⟨d1, k1, rfl, rfl⟩, rfl⟩
     try simp only [List.cons_append, List.nil_append]
     rw [show toldL c1 c1.due = c1.due by unfold toldL; rw [if_neg h0]]
     refine gl_n rfl (o_appendS rfl rfl (by repeat (first | exact .head | apply Sel.tail)) rfl (by simp) (by simp [List.all_map]; intro x _; rfl) (by omega) (by unfold maxLen; omega)) ?_
     rintro _ _ ⟨a163, c163, rfl, rfl⟩
     refine gl_imp (xs_app (l := told) (m := c1.due) (a := a163) (c := c163)) ?_
     rw [← List.length_append]
     refine gl_v rfl (o_assign rfl) ?_
     refine gl_nil ?_
     refine ge_then ?_
     refine g_region ?_
     refine gl_v rfl (o_move rfl) ?_
     refine gl_v rfl (o_move rfl) ?_
     refine gl_v rfl (o_move rfl) ?_
     refine gl_v rfl (o_idxS rfl rfl (show p < 3 by omega)) ?_
     refine gl_v rfl (o_loadS rfl (show (xs.map oVK)[p * 1]? = some (ptr q 0) by rw [Nat.mul_one]; exact map_at' hx)) ?_
     refine gl_c rfl (o_call rfl (KRefused_spec X (⟨0, n⟩ : CB) q c1 hv1 (by omega)) (by repeat (first | exact .nil | (apply Part.cons; · (repeat (first | exact .head | apply Sel.tail)))))) ?_
     rintro _ R ⟨_, ⟨d3, k3, rfl, rfl⟩, rfl⟩
     try simp only [List.cons_append, List.nil_append]
     rw [show toldL c1 c1.ref = c1.ref by unfold toldL; rw [if_neg h0]]
     refine gl_n rfl (o_appendS rfl rfl (by repeat (first | exact .head | apply Sel.tail)) rfl (by simp) (by simp [List.all_map]; intro x _; rfl) (by omega) (by unfold maxLen; omega)) ?_
     rintro _ _ ⟨a170, c170, rfl, rfl⟩
     refine gl_imp (xs_app (l := (told ++ c1.due)) (m := c1.ref) (a := a170) (c := c170)) ?_
     rw [← List.length_append]
     refine gl_v rfl (o_assign rfl) ?_
     refine gl_nil ?_
     refine ge_block ?_
     refine ge_then ?_
     refine g_region ?_
     refine gl_v rfl (o_move rfl) ?_
     refine gl_v rfl (o_addR ((p + 1 : Nat) : Int) (by rw [wr_i64 (by omega)]; omega) rfl rfl) ?_
     refine gl_v rfl (o_assign rfl) ?_
     refine gl_nil ?_
     refine ge_imp (fs (i := p) (l := xs.map (oK X (⟨0, n⟩ : CB))) (A := opK X (⟨0, n⟩ : CB) q c1) (by repeat (first | exact .head | apply Sel.tail)) (by repeat (first | exact .head | apply Sel.tail)) (by rw [List.length_map]; omega)) ?_
     refine ge_round (p + 1, L1, t1, w1, xs.set p (some (q, c1)), inn, _, ai, ci, a170, c170) ⟨hD1, by show p + 1 ≤ 3; omega⟩ (by show 3 - (p + 1) < 3 - p; omega) (Keep.cons rfl (Keep.cons rfl (Keep.cons rfl (Keep.cons rfl (Keep.cons rfl (Keep.cons rfl (Keep.cons rfl (Keep.cons rfl (Keep.nil))))))))) (by rw [show (xs.set p (some (q, c1))).map oVK = xs.map oVK from by rw [List.map_set]; exact map_sameP (f := oVK) (y := some (q, co)) hx, List.map_set]; exact (To.sat (by repeat (first | exact .nil | exact .done .refl | (apply To.cons; · (repeat (first | exact .head | apply Sel.tail))) | exact .done (by repeat (first | exact .refl | apply Drop.skip))))))
    ·
     first | replace hc12 := of_decide_eq_true hc12 | replace hc12 := lt_f hc12 | replace hc12 := le_f hc12 | replace hc12 := dec_f hc12 | replace hc12 := nlt_t hc12 | replace hc12 := nle_t hc12 | replace hc12 := ndec_t hc12 | replace hc12 := ndec_f hc12 | replace hc12 := nn_t hc12 | replace hc12 := nn_f hc12 | skip
     have hp2 : p ≠ 2 := by omega
     have hp3 : p < 2 := by omega
     have hD1 := hlr.pt hp2
     refine g_seq ?_
     refine g_region ?_
     refine gl_v rfl (o_move rfl) ?_
     refine gl_v rfl (o_move rfl) ?_
     refine gl_v rfl (o_idxS rfl rfl (show p < 3 by omega)) ?_
     refine gl_v rfl (o_loadS rfl (show (xs.map oVK)[p * 1]? = some (ptr q 0) by rw [Nat.mul_one]; exact map_at' hx)) ?_
     refine gl_v rfl (o_nil rfl) ?_
     first | refine gl_v rfl (o_fldS rfl) ?_ | refine gl_v rfl (o_fld rfl) ?_
     refine gl_c rfl (o_call rfl (Out_op X (⟨0, n⟩ : CB) q c1 hv1) (by repeat (first | exact .nil | (apply Part.cons; · (repeat (first | exact .head | apply Sel.tail)))))) ?_
     rintro _ R ⟨_, ⟨rfl, rfl⟩, rfl⟩
     try simp only [List.cons_append, List.nil_append]
     refine gl_v rfl (o_eql rfl rfl) ?_
     refine gl_nil ?_
     refine ge_then ?_
     refine g_cond rfl (fun hc13 => ?_) (fun hc13 => ?_)
     ·
      first | replace hc13 := of_decide_eq_true hc13 | replace hc13 := lt_f hc13 | replace hc13 := le_f hc13 | replace hc13 := dec_f hc13 | replace hc13 := nlt_t hc13 | replace hc13 := nle_t hc13 | replace hc13 := ndec_t hc13 | replace hc13 := ndec_f hc13 | replace hc13 := nn_t hc13 | replace hc13 := nn_f hc13 | skip
      have ho1 : c1.out = 1 := by omega
      rw [if_pos ho1] at hD1
      refine g_region ?_
      refine gl_v rfl (o_move rfl) ?_
      refine gl_v rfl (o_move rfl) ?_
      refine gl_v rfl (o_move rfl) ?_
      refine gl_v rfl (o_idxS rfl rfl (show p < 2 by omega)) ?_
      refine gl_v rfl (o_loadS rfl (map_at (f := U64) (d := 0) (show p < il.length by omega))) ?_
      first | refine gl_n rfl (o_buildS1 rfl rfl rfl) ?_ | refine gl_n rfl (o_buildS1A rfl rfl rfl rfl) ?_ | refine gl_n rfl (o_buildS rfl rfl rfl rfl) ?_
      rintro _ _ ⟨b184, rfl, rfl⟩
      refine gl_n rfl (o_append rfl rfl (by repeat (first | exact .nil | (apply Part.cons; · (repeat (first | exact .head | apply Sel.tail))))) rfl rfl rfl (by omega) (by unfold maxLen; omega)) ?_
      rintro _ _ ⟨a185, c185, rfl, rfl⟩
      rw [show inn.length + 1 = (inn ++ [il.getD p 0]).length by simp, show inn.map U64 ++ [U64 (il.getD p 0)] = (inn ++ [il.getD p 0]).map U64 by simp]
      refine gl_v rfl (o_assign rfl) ?_
      refine gl_nil ?_
      refine ge_block ?_
      refine ge_then ?_
      refine g_region ?_
      refine gl_v rfl (o_move rfl) ?_
      refine gl_v rfl (o_addR ((p + 1 : Nat) : Int) (by rw [wr_i64 (by omega)]; omega) rfl rfl) ?_
      refine gl_v rfl (o_assign rfl) ?_
      refine gl_nil ?_
      refine ge_imp (fs (i := p) (l := xs.map (oK X (⟨0, n⟩ : CB))) (A := opK X (⟨0, n⟩ : CB) q c1) (by repeat (first | exact .head | apply Sel.tail)) (by repeat (first | exact .head | apply Sel.tail)) (by rw [List.length_map]; omega)) ?_
      refine ge_round (p + 1, L1, t1, w1, xs.set p (some (q, c1)), _, told, a185, c185, at', ct) ⟨hD1, by show p + 1 ≤ 3; omega⟩ (by show 3 - (p + 1) < 3 - p; omega) (Keep.cons rfl (Keep.cons rfl (Keep.cons rfl (Keep.cons rfl (Keep.cons rfl (Keep.cons rfl (Keep.cons rfl (Keep.cons rfl (Keep.nil))))))))) (by rw [show (xs.set p (some (q, c1))).map oVK = xs.map oVK from by rw [List.map_set]; exact map_sameP (f := oVK) (y := some (q, co)) hx, List.map_set]; exact (To.sat (by repeat (first | exact .nil | exact .done .refl | (apply To.cons; · (repeat (first | exact .head | apply Sel.tail))) | exact .done (by repeat (first | exact .refl | apply Drop.skip))))))
     ·
      first | replace hc13 := of_decide_eq_true hc13 | replace hc13 := lt_f hc13 | replace hc13 := le_f hc13 | replace hc13 := dec_f hc13 | replace hc13 := nlt_t hc13 | replace hc13 := nle_t hc13 | replace hc13 := ndec_t hc13 | replace hc13 := ndec_f hc13 | replace hc13 := nn_t hc13 | replace hc13 := nn_f hc13 | skip
      have ho1 : ¬ c1.out = 1 := by omega
      rw [if_neg ho1] at hD1
      refine g_skip ?_
      refine ge_block ?_
      refine ge_then ?_
      refine g_region ?_
      refine gl_v rfl (o_move rfl) ?_
      refine gl_v rfl (o_addR ((p + 1 : Nat) : Int) (by rw [wr_i64 (by omega)]; omega) rfl rfl) ?_
      refine gl_v rfl (o_assign rfl) ?_
      refine gl_nil ?_
      refine ge_imp (fs (i := p) (l := xs.map (oK X (⟨0, n⟩ : CB))) (A := opK X (⟨0, n⟩ : CB) q c1) (by repeat (first | exact .head | apply Sel.tail)) (by repeat (first | exact .head | apply Sel.tail)) (by rw [List.length_map]; omega)) ?_
      refine ge_round (p + 1, L1, t1, w1, xs.set p (some (q, c1)), inn, told, ai, ci, at', ct) ⟨hD1, by show p + 1 ≤ 3; omega⟩ (by show 3 - (p + 1) < 3 - p; omega) (Keep.cons rfl (Keep.cons rfl (Keep.cons rfl (Keep.cons rfl (Keep.cons rfl (Keep.cons rfl (Keep.cons rfl (Keep.cons rfl (Keep.nil))))))))) (by rw [show (xs.set p (some (q, c1))).map oVK = xs.map oVK from by rw [List.map_set]; exact map_sameP (f := oVK) (y := some (q, co)) hx, List.map_set]; exact (To.sat (by repeat (first | exact .nil | exact .done .refl | (apply To.cons; · (repeat (first | exact .head | apply Sel.tail))) | exact .done (by repeat (first | exact .refl | apply Drop.skip))))))
   ·
    first | replace hc11 := of_decide_eq_true hc11 | replace hc11 := lt_f hc11 | replace hc11 := le_f hc11 | replace hc11 := dec_f hc11 | replace hc11 := nlt_t hc11 | replace hc11 := nle_t hc11 | replace hc11 := ndec_t hc11 | replace hc11 := ndec_f hc11 | replace hc11 := nn_t hc11 | replace hc11 := nn_f hc11 | skip
    obtain rfl : x = none := by cases x with | none => rfl | some q => cases hc11
    refine g_skip ?_
    refine ge_block ?_
    refine ge_then ?_
    refine g_region ?_
    refine gl_v rfl (o_move rfl) ?_
    refine gl_v rfl (o_addR ((p + 1 : Nat) : Int) (by rw [wr_i64 (by omega)]; omega) rfl rfl) ?_
    refine gl_v rfl (o_assign rfl) ?_
    refine gl_nil ?_
    refine ge_round (p + 1, L, t, w, xs, inn, told, ai, ci, at', ct) ⟨hD.skip (by omega) hx, by show p + 1 ≤ 3; omega⟩ (by show 3 - (p + 1) < 3 - p; omega) (Keep.cons rfl (Keep.cons rfl (Keep.cons rfl (Keep.cons rfl (Keep.cons rfl (Keep.cons rfl (Keep.cons rfl (Keep.cons rfl (Keep.nil))))))))) (To.sat (by repeat (first | exact .nil | exact .done .refl | (apply To.cons; · (repeat (first | exact .head | apply Sel.tail))) | exact .done (by repeat (first | exact .refl | apply Drop.skip)))))
  ·
   first | replace hc10 := of_decide_eq_true hc10 | replace hc10 := lt_f hc10 | replace hc10 := le_f hc10 | replace hc10 := dec_f hc10 | replace hc10 := nlt_t hc10 | replace hc10 := nle_t hc10 | replace hc10 := ndec_t hc10 | replace hc10 := ndec_f hc10 | replace hc10 := nn_t hc10 | replace hc10 := nn_f hc10 | skip
   obtain rfl : p = 3 := by omega
   have hF0 := hD.fb
   generalize hM : w.now + 40 = M at hF0
   refine g_exit ?_
   refine ge_then_exit ?_
   refine ge_then_exit ?_
   refine ge_block_exit ?_
   refine ge_then ?_
   refine g_seq ?_
   refine g_seq ?_
   refine g_region ?_
   refine gl_v rfl (o_assign rfl) ?_
   refine gl_nil ?_
   refine ge_then ?_
   refine g_block ?_
   refine g_loop (ι := Nat × List Int × Int × Wh × List Int × Option Addr × Nat) (fun x => FB (⟨0, n⟩ : CB) N M x.1 x.2.1 x.2.2.2.1 inn x.2.2.2.2.1 ∧ x.1 ≤ 50) (fun x => [(17, I64 x.1), (11, tl x.2.2.2.2.2.1 x.2.2.2.2.2.2 x.2.2.2.2.1), (10, tl ai ci inn), (7, ptr X.c 0)]) (fun x => envK X (⟨0, n⟩ : CB) x.2.1 x.2.2.1 x.2.2.2.1 :: tlA ai ci inn :: tlA x.2.2.2.2.2.1 x.2.2.2.2.2.2 x.2.2.2.2.1 :: A :: R) (fun x => 50 - x.1) (0, L, t, w, told, at', ct) (⟨hF0, Nat.zero_le _⟩) (Keep.cons rfl (Keep.cons rfl (Keep.cons rfl (Keep.cons rfl (Keep.nil))))) (To.sat (by repeat (first | exact .nil | exact .done .refl | (apply To.cons; · (repeat (first | exact .head | apply Sel.tail))) | exact .done (by repeat (first | exact .refl | apply Drop.skip))))) ?_
   clear hF0 hD
   rintro ⟨j, L, t, w, told, at', ct⟩ ⟨hF, hj5⟩
   replace hF : FB (⟨0, n⟩ : CB) N M j L w inn told := hF
   replace hj5 : j ≤ 50 := hj5
   dsimp only
   refine g_seq ?_
   refine g_seq ?_
   refine g_region ?_
   refine gl_v rfl (o_move rfl) ?_
   refine gl_v rfl (o_lss rfl rfl) ?_
   refine gl_nil ?_
   refine ge_then ?_
   refine g_cond rfl (fun hc14 => ?_) (fun hc14 => ?_)
   ·
    first | replace hc14 := of_decide_eq_true hc14 | replace hc14 := lt_f hc14 | replace hc14 := le_f hc14 | replace hc14 := dec_f hc14 | replace hc14 := nlt_t hc14 | replace hc14 := nle_t hc14 | replace hc14 := ndec_t hc14 | replace hc14 := ndec_f hc14 | replace hc14 := nn_t hc14 | replace hc14 := nn_f hc14 | skip
    have hj : j < 50 := by omega
    refine g_skip ?_
    refine ge_then ?_
    refine g_seq ?_
    refine g_block ?_
    refine g_seq ?_
    obtain ⟨e3, e1, e2, htl, e4, kk, L1, w1, c1, hrun, hout1, hco1, hF'⟩ := hF.step hj
    have h0 : c1.out ≠ 0 := by rw [hout1]; decide
    have hv1 : c1.out = 0 → c1.val = 0 := fun h => absurd h h0
    rw [← List.append_assoc] at hF'
    have hE1 := hF'.len
    simp only [List.length_append] at hE1
    have hL1 : (told ++ c1.due).length = told.length + c1.due.length := List.length_append
    have hB64 : ((⟨0, n⟩ : CB)).n ≤ 64 := by show n ≤ 64; omega
    refine g_region ?_
    refine gl_v rfl (o_move rfl) ?_
    refine gl_c rfl (o_call rfl (fns_envW (Beat_spec X (⟨0, n⟩ : CB) hB64 w e3.wi.now)) (by repeat (first | exact .nil | (apply Part.cons; · (repeat (first | exact .head | apply Sel.tail)))))) ?_
    rintro _ R ⟨_, ⟨q, rfl, rfl⟩, rfl⟩
    try simp only [List.cons_append, List.nil_append]
    refine gl_v rfl (o_assign rfl) ?_
    refine gl_nil ?_
    refine ge_then ?_
    refine g_seq ?_
    refine g_region ?_
    refine gl_v rfl (o_move rfl) ?_
    refine gl_c rfl (o_call rfl (kdone_spec X (⟨0, n⟩ : CB) q L t w (beatC (⟨0, n⟩ : CB) w) e1 e2 e3 e4 kk L1 w1 c1 hrun) (by repeat (first | exact .nil | (apply Part.cons; · (repeat (first | exact .head | apply Sel.tail)))))) ?_
    rintro _ R ⟨_, ⟨t1, rfl, rfl⟩, rfl⟩
    try simp only [List.cons_append, List.nil_append]
    refine gl_nil ?_
    refine ge_then ?_
    refine g_seq ?_
    refine g_region ?_
    refine gl_v rfl (o_move rfl) ?_
    refine gl_v rfl (o_move rfl) ?_
    refine gl_c rfl (o_call rfl (KDue_spec X (⟨0, n⟩ : CB) q c1 hv1 (by omega)) (by repeat (first | exact .nil | (apply Part.cons; · (repeat (first | exact .head | apply Sel.tail)))))) ?_
    rintro _ R ⟨_, ⟨d1, k1, rfl, rfl⟩, rfl⟩
    try simp only [List.cons_append, List.nil_append]
    rw [show toldL c1 c1.due = c1.due by unfold toldL; rw [if_neg h0]]
    refine gl_n rfl (o_appendS rfl rfl (by repeat (first | exact .head | apply Sel.tail)) rfl (by simp) (by simp [List.all_map]; intro x _; rfl) (by omega) (by unfold maxLen; omega)) ?_
    rintro _ _ ⟨a197, c197, rfl, rfl⟩
    refine gl_imp (xs_app (l := told) (m := c1.due) (a := a197) (c := c197)) ?_
    rw [← List.length_append]
    refine gl_v rfl (o_assign rfl) ?_
    refine gl_nil ?_
    refine ge_then ?_
    refine g_region ?_
    refine gl_v rfl (o_move rfl) ?_
    refine gl_v rfl (o_move rfl) ?_
    refine gl_c rfl (o_call rfl (KRefused_spec X (⟨0, n⟩ : CB) q c1 hv1 (by omega)) (by repeat (first | exact .nil | (apply Part.cons; · (repeat (first | exact .head | apply Sel.tail)))))) ?_
    rintro _ R ⟨_, ⟨d3, k3, rfl, rfl⟩, rfl⟩
    try simp only [List.cons_append, List.nil_append]
    rw [show toldL c1 c1.ref = c1.ref by unfold toldL; rw [if_neg h0]]
    refine gl_n rfl (o_appendS rfl rfl (by repeat (first | exact .head | apply Sel.tail)) rfl (by simp) (by simp [List.all_map]; intro x _; rfl) (by omega) (by unfold maxLen; omega)) ?_
    rintro _ _ ⟨a201, c201, rfl, rfl⟩
    refine gl_imp (xs_app (l := (told ++ c1.due)) (m := c1.ref) (a := a201) (c := c201)) ?_
    rw [← List.length_append]
    refine gl_v rfl (o_assign rfl) ?_
    refine gl_nil ?_
    refine ge_block ?_
    refine ge_then ?_
    refine g_region ?_
    refine gl_v rfl (o_move rfl) ?_
    refine gl_v rfl (o_addR ((j + 1 : Nat) : Int) (by rw [wr_i64 (by omega)]; omega) rfl rfl) ?_
    refine gl_v rfl (o_assign rfl) ?_
    refine gl_nil ?_
    refine ge_round (j + 1, L1, t1, w1, _, a201, c201) ⟨hF', by show j + 1 ≤ 50; omega⟩ (by show 50 - (j + 1) < 50 - j; omega) (Keep.cons rfl (Keep.cons rfl (Keep.cons rfl (Keep.cons rfl (Keep.nil))))) (To.sat (by repeat (first | exact .nil | exact .done .refl | (apply To.cons; · (repeat (first | exact .head | apply Sel.tail))) | exact .done (by repeat (first | exact .refl | apply Drop.skip)))))
   ·
    first | replace hc14 := of_decide_eq_true hc14 | replace hc14 := lt_f hc14 | replace hc14 := le_f hc14 | replace hc14 := dec_f hc14 | replace hc14 := nlt_t hc14 | replace hc14 := nle_t hc14 | replace hc14 := ndec_t hc14 | replace hc14 := ndec_f hc14 | replace hc14 := nn_t hc14 | replace hc14 := nn_f hc14 | skip
    obtain rfl : j = 50 := by omega
    obtain ⟨hTe, hlen2, hinn60, hone0⟩ := hF.done
    have hWIe := hF.wi
    refine g_exit ?_
    refine ge_then_exit ?_
    refine ge_then_exit ?_
    refine ge_block_exit ?_
    refine ge_then ?_
    refine g_seq ?_
    refine g_seq ?_
    refine g_region ?_
    refine gl_v rfl (o_assign rfl) ?_
    refine gl_nil ?_
    refine ge_then ?_
    refine g_block ?_
    refine g_loop (ι := Nat) (fun x => x ≤ inn.length) (fun x => [(19, I64 x), (11, tl at' ct told), (10, tl ai ci inn), (7, ptr X.c 0)]) (fun _ => envK X (⟨0, n⟩ : CB) L t w :: tlA ai ci inn :: tlA at' ct told :: A :: R) (fun x => inn.length - x) 0 (Nat.zero_le _) (Keep.cons rfl (Keep.cons rfl (Keep.cons rfl (Keep.cons rfl (Keep.nil))))) (To.sat (by repeat (first | exact .nil | exact .done .refl | (apply To.cons; · (repeat (first | exact .head | apply Sel.tail))) | exact .done (by repeat (first | exact .refl | apply Drop.skip))))) ?_
    rintro i hi9
    replace hi9 : i ≤ inn.length := hi9
    refine g_seq ?_
    refine g_seq ?_
    refine g_region ?_
    refine gl_v rfl (o_move rfl) ?_
    refine gl_v rfl (o_move rfl) ?_
    first | refine gl_v rfl (o_len rfl) ?_ | refine gl_v rfl (o_lenL rfl) ?_
    refine gl_v rfl (o_lss rfl rfl) ?_
    refine gl_nil ?_
    refine ge_then ?_
    refine g_cond rfl (fun hc15 => ?_) (fun hc15 => ?_)
    ·
     first | replace hc15 := of_decide_eq_true hc15 | replace hc15 := lt_f hc15 | replace hc15 := le_f hc15 | replace hc15 := dec_f hc15 | replace hc15 := nlt_t hc15 | replace hc15 := nle_t hc15 | replace hc15 := ndec_t hc15 | replace hc15 := ndec_f hc15 | replace hc15 := nn_t hc15 | replace hc15 := nn_f hc15 | skip
     have hone := hone0 (inn.getD i 0) (by rw [List.getD_eq_getElem?_getD, List.getElem?_eq_getElem (show i < inn.length by omega)]; exact List.getElem_mem _)
     refine g_skip ?_
     refine ge_then ?_
     refine g_seq ?_
     refine g_block ?_
     refine g_seq ?_
     refine g_region ?_
     refine gl_v rfl (o_move rfl) ?_
     refine gl_v rfl (o_move rfl) ?_
     refine gl_v rfl (o_move rfl) ?_
     refine gl_v rfl (o_idxS rfl rfl (show i < inn.length by omega)) ?_
     refine gl_v rfl (o_loadS rfl (map_at (f := U64) (d := 0) (by omega))) ?_
     refine gl_c rfl (o_call rfl (has_spec (tl at' ct told) told (inn.getD i 0) (by omega) (tlA at' ct told)) (by repeat (first | exact .nil | (apply Part.cons; · (repeat (first | exact .head | apply Sel.tail)))))) ?_
     rintro _ R ⟨_, ⟨rfl, rfl⟩, rfl⟩
     try simp only [List.cons_append, List.nil_append]
     refine gl_v rfl (o_is (c := false) (by rw [hone]; rfl) (o_neq rfl rfl)) ?_
     refine gl_nil ?_
     refine ge_then ?_
     refine g_cond_false rfl ?_
     refine g_skip ?_
     refine ge_block ?_
     refine ge_then ?_
     refine g_region ?_
     refine gl_v rfl (o_move rfl) ?_
     refine gl_v rfl (o_addR ((i + 1 : Nat) : Int) (by rw [wr_i64 (by omega)]; omega) rfl rfl) ?_
     refine gl_v rfl (o_assign rfl) ?_
     refine gl_nil ?_
     refine ge_round (i + 1) (show i + 1 ≤ inn.length by omega) (show inn.length - (i + 1) < inn.length - i by omega) (Keep.cons rfl (Keep.cons rfl (Keep.cons rfl (Keep.cons rfl (Keep.nil))))) (To.sat (by repeat (first | exact .nil | exact .done .refl | (apply To.cons; · (repeat (first | exact .head | apply Sel.tail))) | exact .done (by repeat (first | exact .refl | apply Drop.skip)))))
    ·
     first | replace hc15 := of_decide_eq_true hc15 | replace hc15 := lt_f hc15 | replace hc15 := le_f hc15 | replace hc15 := dec_f hc15 | replace hc15 := nlt_t hc15 | replace hc15 := nle_t hc15 | replace hc15 := ndec_t hc15 | replace hc15 := ndec_f hc15 | replace hc15 := nn_t hc15 | replace hc15 := nn_f hc15 | skip
     refine g_exit ?_
     refine ge_then_exit ?_
     refine ge_then_exit ?_
     refine ge_block_exit ?_
     refine ge_then ?_
     refine g_seq ?_
     refine g_region ?_
     refine gl_v rfl (o_move rfl) ?_
     first | refine gl_v rfl (o_len rfl) ?_ | refine gl_v rfl (o_lenL rfl) ?_
     refine gl_v rfl (o_move rfl) ?_
     first | refine gl_v rfl (o_len rfl) ?_ | refine gl_v rfl (o_lenL rfl) ?_
     refine gl_v rfl (o_is (c := true) (by rw [hlen2]; exact decide_eq_true rfl) (o_eql rfl rfl)) ?_
     refine gl_v rfl (o_move rfl) ?_
     refine gl_gT rfl rfl rfl ?_
     refine gl_v rfl (o_move rfl) ?_
     refine gl_gT rfl rfl rfl ?_
     refine gl_c rfl (o_call rfl (KIds_env X (⟨0, n⟩ : CB) L t w hWIe) (by repeat (first | exact .nil | (apply Part.cons; · (repeat (first | exact .head | apply Sel.tail)))))) ?_
     rintro _ R ⟨_, ⟨a7, c7, rfl, rfl⟩, rfl⟩
     try simp only [List.cons_append, List.nil_append]
     refine gl_gT rfl rfl rfl ?_
     first | refine gl_v rfl (o_len rfl) ?_ | refine gl_v rfl (o_lenL rfl) ?_
     refine gl_gT rfl rfl rfl ?_
     refine gl_v rfl (o_is (c := true) (by rw [hTe]; rfl) (o_eql rfl rfl)) ?_
     refine gl_v rfl (o_pickT rfl rfl rfl) ?_
     refine gl_v rfl (o_assign rfl) ?_
     refine gl_nil ?_
     refine ge_then ?_
     refine g_ret ?_
     refine ret1 (.inl rfl) rfl rfl [A] (⟨rfl, rfl⟩) (To.sat (by repeat (first | exact .nil | exact .done .refl | (apply To.cons; · (repeat (first | exact .head | apply Sel.tail))) | exact .done (by repeat (first | exact .refl | apply Drop.skip)))))

end Go.Proofs.YtmohikdmdmplaaaGreat.L
