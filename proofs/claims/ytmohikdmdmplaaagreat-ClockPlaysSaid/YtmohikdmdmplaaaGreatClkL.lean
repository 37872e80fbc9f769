/-
  ClockPlays. Own work, printed in part by a program of its own.
-/
import Derived.Test.YtmohikdmdmplaaaGreatClkP
set_option linter.unusedSimpArgs false
set_option linter.unusedVariables false
set_option linter.unusedSectionVars false
namespace Go.Proofs.YtmohikdmdmplaaaGreat.L
open Go.L Go.L.Ring Go.L.Post Go.L.Clk Go.L.Whl
theorem KIds_env (X : KX) (B : CB) (L : List Int) (t : Int) (w : Wh) (hw : WI w) : FnS Tryz.prog 30 [ptr X.c 0] [envK X B L t w] (fun u Bs => ∃ a' c', u = .slice a' w.T.length c' ∧ Bs = [own (.slice a' w.T.length c') 22 1 w.T.length (w.T.map fun t => U64 t.id), envK X B L t w]) := by
  refine fns_ex (fun x _ => ?_)
  intro W0 R w' s
  refine (KIds_spec X B w hw W0 (memA X.m L t :: ringA X.r X.m (B.b + 1) B.n :: R) w' (s.imp (To.sat (by repeat (first | exact .nil | exact .done .refl | (apply To.cons; · (repeat (first | exact .head | apply Sel.tail))) | exact .done (by repeat (first | exact .refl | apply Drop.skip))))))).mono ?_
  rintro _ _ ⟨v, Bs, e, ⟨a', c', e2, rfl⟩, s⟩
  exact ⟨v, _, e, ⟨a', c', e2, rfl⟩, s.imp fun h s => Sat.tail (fun h s => ex_close () trivial (To.sat (by repeat (first | exact .nil | exact .done .refl | (apply To.cons; · (repeat (first | exact .head | apply Sel.tail))) | exact .done (by repeat (first | exact .refl | apply Drop.skip))))) h s) s⟩

theorem KTouched (X : KX) (B : CB) (L : List Int) (t : Int) (w : Wh) : FnS Tryz.prog 37 [ptr X.m 0] [envK X B L t w] (fun u Bs => u = I64 t ∧ Bs = [envK X B L t w]) := by
  refine fns_ex (fun x _ => ?_)
  intro W0 R w' s
  refine (Touched_spec X.m L t W0 (clkA X B :: ringA X.r X.m (B.b + 1) B.n :: wheel X.wp w :: R) w' (s.imp (To.sat (by repeat (first | exact .nil | exact .done .refl | (apply To.cons; · (repeat (first | exact .head | apply Sel.tail))) | exact .done (by repeat (first | exact .refl | apply Drop.skip))))))).mono ?_
  rintro _ _ ⟨v, Bs, e, ⟨e2, rfl⟩, s⟩
  exact ⟨v, _, e, ⟨e2, rfl⟩, s.imp fun h s => ex_close () trivial (To.sat (by repeat (first | exact .nil | exact .done .refl | (apply To.cons; · (repeat (first | exact .head | apply Sel.tail))) | exact .done (by repeat (first | exact .refl | apply Drop.skip))))) h s⟩
theorem KAll (X : KX) (B : CB) (L : List Int) (t : Int) (w : Wh) (hL : L.length ≤ 17592186044416) : FnS Tryz.prog 26 [ptr X.m 0] [envK X B L t w] (fun u Bs => ∃ a c, u = tl a c L ∧ Bs = [tlA a c L, envK X B L t w]) := by
  refine fns_ex (fun x _ => ?_)
  intro W0 R w' s
  refine (All_spec X.m L t hL W0 (clkA X B :: ringA X.r X.m (B.b + 1) B.n :: wheel X.wp w :: R) w' (s.imp (To.sat (by repeat (first | exact .nil | exact .done .refl | (apply To.cons; · (repeat (first | exact .head | apply Sel.tail))) | exact .done (by repeat (first | exact .refl | apply Drop.skip))))))).mono ?_
  rintro _ _ ⟨v, Bs, e, ⟨a, c, e2, rfl⟩, s⟩
  exact ⟨v, _, e, ⟨a, c, e2, rfl⟩, s.imp fun h s => (Sat.swap (ex_close () trivial (To.sat (by repeat (first | exact .nil | exact .done .refl | (apply To.cons; · (repeat (first | exact .head | apply Sel.tail))) | exact .done (by repeat (first | exact .refl | apply Drop.skip))))) h s))⟩
theorem KIdsE (X : KX) (B : CB) (L : List Int) (t : Int) (w : Wh) (hw : WI w) : FnS Tryz.prog 30 [ptr X.c 0] [envK X B L t w] (fun u Bs => ∃ a' c', u = tl a' c' (w.T.map (·.id)) ∧ Bs = [tlA a' c' (w.T.map (·.id)), envK X B L t w]) :=
  (KIds_env X B L t w hw).mono fun u Bs ⟨a', c', h1, h2⟩ => ⟨a', c', by rw [h1]; simp only [tl, List.length_map], by rw [h2, ← idO_tl]⟩
def oVK : Option (Nat × CO) → Value
  | none => .pointer none
  | some q => ptr q.1 0
def oK (X : KX) (B : CB) : Option (Nat × CO) → Assn
  | none => emp
  | some q => opK X B q.1 q.2
def sV4 (q : Int × Int × Int × Int) : List Value := [.int .u8 q.1, .int .u8 q.2.1, U64 q.2.2.1, I64 q.2.2.2]
def idleK : Option (Nat × CO) → Bool
  | none => true
  | some q => q.2.over
theorem o_neqK {P : Program} {W0 : World} {n : Nat} {sl : Slots} {As : List Assn} {ty t t' : TypeId} {x y : Operand} {z : Option (Nat × CO)} [i : TPtr P t] (hx : opv sl x = some (oVK z)) (hy : opv sl y = some (.pointer none)) : OV P W0 n (.binOp .neq t x y t') ty sl As (.bool z.isSome) := by
  cases z with
  | none => exact o_neqnn hx hy
  | some q => exact o_neqPn hx hy
theorem o_eqlK {P : Program} {W0 : World} {n : Nat} {sl : Slots} {As : List Assn} {ty t t' : TypeId} {x y : Operand} {z : Option (Nat × CO)} [i : TPtr P t] (hx : opv sl x = some (oVK z)) (hy : opv sl y = some (.pointer none)) : OV P W0 n (.binOp .eql t x y t') ty sl As (.bool z.isNone) := by
  cases z with
  | none => exact o_eqlnn hx hy
  | some q => exact o_eqlPn hx hy
theorem kA0 {R : List Assn} : ∀ h, Sat R h → Sat (kA y0 :: R) h := fun h s => kA_close (y := y0) (fun h s => own_nil0 h (own_nil0 h (own_nil0 h (own_nil0 h s)))) h s
theorem kplays_start {X : KX} {b n c : Nat} {R : List Assn} : ∀ h, Sat (cel c 49 [I64 b, I64 n, I64 0, .slice none 0 0, .slice none 0 0] :: R) h → Sat (rclk c ⟨b, n⟩ ⟨0, 0, []⟩ :: fam ((List.replicate 5 none).map (oK X ⟨b, n⟩)) :: fam ((List.replicate 5 y0).map kA) :: R) h := fun h s =>
  rclk_close (w := ⟨0, 0, []⟩) none 0 none 0 (fun h s => Sat.tail (fun h s => by
    have f1 : Sat (fam ((List.replicate 5 y0).map kA) :: _) h := Sat.flat.2 (kA0 _ (kA0 _ (kA0 _ (kA0 _ (kA0 _ s)))))
    have f2 : Sat (fam ((List.replicate 5 none).map (oK X ⟨b, n⟩)) :: _) h := Sat.flat.2 (emp0 h (emp0 h (emp0 h (emp0 h (emp0 h f1)))))
    exact own_nil0 (e := 22) (sz := 1) h (own_nil0 (e := 3) (sz := 1) h f2)) s) h s
theorem flat_at' {α : Type} (f : α → List Value) (sz : Nat) (hf : ∀ x, (f x).length = sz) {l : List α} {i : Nat} {x : α} (h : l[i]? = some x) {j : Nat} {v : Value} (hv : (f x)[j]? = some v) (hj : j < sz) : (l.flatMap f)[i * sz + j]? = some v := by
  have h2 := flat_take f sz hf h
  rw [← h2, List.getElem?_take_of_lt hj, List.getElem?_drop] at hv
  exact hv
theorem rclk_shut {c : Nat} {B : CB} {w : Wh} {As R1 R2 R3 : List Assn} (i1 : Option Addr) (j1 : Nat) (i2 : Option Addr) (j2 : Nat) (s1 : Sel (cel c 49 [I64 B.b, I64 B.n, I64 w.now, .slice i1 w.T.length j1, .slice i2 w.T.length j2]) As R1) (s2 : Sel (idO i1 j1 w.T.length w.T) R1 R2) (s3 : Sel (duO i2 j2 w.T.length w.T) R2 R3) : ∀ h, Sat As h → Sat (rclk c B w :: R3) h :=
  rclk_close i1 j1 i2 j2 (fun _ s => Sat.tail (fun _ s => Sat.tail (fun _ => s3.to) (s2.to s)) (s1.to s))
theorem same_ids (a7 : Option Addr) (c7 : Nat) (i1 : Option Addr) (j1 : Nat) (T : List Tm) (h : (T.map (·.id)).length ≤ 4611686018427387904) : FnS Tryz.prog 25 [tl a7 c7 (T.map (·.id)), .slice i1 T.length j1] [tlA a7 c7 (T.map (·.id)), idO i1 j1 T.length T] (fun u Bs => u = .bool true ∧ Bs = [tlA a7 c7 (T.map (·.id)), idO i1 j1 T.length T]) := by
  have h2 : (Value.slice i1 T.length j1) = tl i1 j1 (T.map (·.id)) := by simp only [tl, List.length_map]
  rw [h2, idO_tl]
  refine FnS.mono (rSame_spec (tl a7 c7 (T.map (·.id))) (tl i1 j1 (T.map (·.id))) (T.map (·.id)) (T.map (·.id)) h h (tlA a7 c7 (T.map (·.id))) (tlA i1 j1 (T.map (·.id)))) (fun u Bs e => ?_)
  exact ⟨by rw [e.1, decide_eq_true rfl], e.2⟩
theorem ktouched_same {v : Bool} {t : Int} (h0 : 0 ≤ t) (h1 : t ≤ 100000) : (!(v == decide ((if v then t else tup t) = t))) = false := by
  have := tup_of (t := t) (by omega)
  cases v with
  | true => simp
  | false => simp only [Bool.false_eq_true, if_false]; rw [this]; simp; omega
theorem ktouched_up {v : Bool} {t : Int} (h0 : 0 ≤ t) (h1 : t ≤ 100000) : decide (t + 1 < (if v then t else tup t)) = false := by
  have := tup_of (t := t) (by omega)
  apply decide_eq_false
  split <;> omega
theorem ktouched_in {v : Bool} {t : Int} (h0 : 0 ≤ t) (h1 : t ≤ 100000) : 0 ≤ (if v then t else tup t) ∧ (if v then t else tup t) ≤ t + 1 := by
  have := tup_of (t := t) (by omega)
  split <;> omega

set_option maxRecDepth 8000 in
set_option maxHeartbeats 1500000 in
theorem kbegun_spec (X : KX) (B : CB) (hn : B.n ≤ 64) (L : List Int) (t : Int) (w : Wh) (hw : w.now < 3000000000000000000) (kind id d : Int) (hk : 1 ≤ kind ∧ kind ≤ 4) (hid : 0 ≤ id) : FnS Tryz.prog 35 [ptr X.c 0, I64 kind, U64 id, I64 d] [envK X B L t w] (fun u Bs => ∃ p, u = ptr p 0 ∧ Bs = [opK X B p (beginC B w kind id d), envK X B L t w]) := by
 refine fn_body Tryz.func35 rfl rfl rfl ?_
 intro W0 R
 simp only [List.zipIdx_cons, List.zipIdx_nil, List.map_cons, List.map_nil, Nat.zero_add, Nat.reduceAdd, List.cons_append, List.nil_append]
 refine g_seq ?_
 refine g_region ?_
 refine gl_v rfl (o_assign rfl) ?_
 refine gl_nil ?_
 refine ge_then ?_
 refine g_seq ?_
 refine g_seq ?_
 refine g_region ?_
 refine gl_v rfl (o_move rfl) ?_
 refine gl_nil ?_
 refine ge_then ?_
 refine g_block ?_
 refine g_seq ?_
 refine g_region ?_
 refine gl_v rfl (o_eql rfl rfl) ?_
 refine gl_v rfl (o_assign rfl) ?_
 refine gl_nil ?_
 refine ge_then ?_
 refine g_cond rfl (fun hc1 => ?_) (fun hc1 => ?_)
 ·
  first | replace hc1 := of_decide_eq_true hc1 | replace hc1 := lt_f hc1 | replace hc1 := le_f hc1 | replace hc1 := dec_f hc1 | replace hc1 := nlt_t hc1 | replace hc1 := nle_t hc1 | replace hc1 := ndec_t hc1 | replace hc1 := ndec_f hc1 | replace hc1 := nn_t hc1 | replace hc1 := nn_f hc1 | skip
  refine g_seq ?_
  refine g_region ?_
  refine gl_v rfl (o_move rfl) ?_
  refine gl_v rfl (o_move rfl) ?_
  refine gl_v rfl (o_move rfl) ?_
  refine gl_c rfl (o_call rfl (fns_env (Ask_spec X B id d hid)) (by repeat (first | exact .nil | (apply Part.cons; · (repeat (first | exact .head | apply Sel.tail)))))) ?_
  rintro _ R ⟨_, ⟨p, rfl, rfl⟩, rfl⟩
  try simp only [List.cons_append, List.nil_append]
  refine gl_v rfl (o_assign rfl) ?_
  refine gl_nil ?_
  refine ge_then ?_
  refine g_ret ?_
  refine ge_block_ret ?_
  refine ge_then_ret ?_
  obtain rfl : kind = 1 := by omega
  exact ret1 (.inl rfl) rfl rfl  _ ⟨_, rfl, rfl⟩ (To.sat (by repeat (first | exact .nil | exact .done .refl | (apply To.cons; · (repeat (first | exact .head | apply Sel.tail))) | exact .done (by repeat (first | exact .refl | apply Drop.skip)))))
 ·
  first | replace hc1 := of_decide_eq_true hc1 | replace hc1 := lt_f hc1 | replace hc1 := le_f hc1 | replace hc1 := dec_f hc1 | replace hc1 := nlt_t hc1 | replace hc1 := nle_t hc1 | replace hc1 := ndec_t hc1 | replace hc1 := ndec_f hc1 | replace hc1 := nn_t hc1 | replace hc1 := nn_f hc1 | skip
  refine g_seq ?_
  refine g_region ?_
  refine gl_v rfl (o_eql rfl rfl) ?_
  refine gl_v rfl (o_assign rfl) ?_
  refine gl_nil ?_
  refine ge_then ?_
  refine g_cond rfl (fun hc2 => ?_) (fun hc2 => ?_)
  ·
   first | replace hc2 := of_decide_eq_true hc2 | replace hc2 := lt_f hc2 | replace hc2 := le_f hc2 | replace hc2 := dec_f hc2 | replace hc2 := nlt_t hc2 | replace hc2 := nle_t hc2 | replace hc2 := ndec_t hc2 | replace hc2 := ndec_f hc2 | replace hc2 := nn_t hc2 | replace hc2 := nn_f hc2 | skip
   refine g_seq ?_
   refine g_region ?_
   refine gl_v rfl (o_move rfl) ?_
   refine gl_v rfl (o_move rfl) ?_
   refine gl_c rfl (o_call rfl (fns_env (Cancel_spec X B id hid)) (by repeat (first | exact .nil | (apply Part.cons; · (repeat (first | exact .head | apply Sel.tail)))))) ?_
   rintro _ R ⟨_, ⟨p, rfl, rfl⟩, rfl⟩
   try simp only [List.cons_append, List.nil_append]
   refine gl_v rfl (o_assign rfl) ?_
   refine gl_nil ?_
   refine ge_then ?_
   refine g_ret ?_
   refine ge_block_ret ?_
   refine ge_then_ret ?_
   obtain rfl : kind = 2 := by omega
   exact ret1 (.inl rfl) rfl rfl  _ ⟨_, rfl, rfl⟩ (To.sat (by repeat (first | exact .nil | exact .done .refl | (apply To.cons; · (repeat (first | exact .head | apply Sel.tail))) | exact .done (by repeat (first | exact .refl | apply Drop.skip)))))
  ·
   first | replace hc2 := of_decide_eq_true hc2 | replace hc2 := lt_f hc2 | replace hc2 := le_f hc2 | replace hc2 := dec_f hc2 | replace hc2 := nlt_t hc2 | replace hc2 := nle_t hc2 | replace hc2 := ndec_t hc2 | replace hc2 := ndec_f hc2 | replace hc2 := nn_t hc2 | replace hc2 := nn_f hc2 | skip
   refine g_seq ?_
   refine g_region ?_
   refine gl_v rfl (o_eql rfl rfl) ?_
   refine gl_v rfl (o_assign rfl) ?_
   refine gl_nil ?_
   refine ge_then ?_
   refine g_cond rfl (fun hc3 => ?_) (fun hc3 => ?_)
   ·
    first | replace hc3 := of_decide_eq_true hc3 | replace hc3 := lt_f hc3 | replace hc3 := le_f hc3 | replace hc3 := dec_f hc3 | replace hc3 := nlt_t hc3 | replace hc3 := nle_t hc3 | replace hc3 := ndec_t hc3 | replace hc3 := ndec_f hc3 | replace hc3 := nn_t hc3 | replace hc3 := nn_f hc3 | skip
    refine g_seq ?_
    refine g_region ?_
    refine gl_v rfl (o_move rfl) ?_
    refine gl_c rfl (o_call rfl (fns_envW (Beat_spec X B hn w hw)) (by repeat (first | exact .nil | (apply Part.cons; · (repeat (first | exact .head | apply Sel.tail)))))) ?_
    rintro _ R ⟨_, ⟨p, rfl, rfl⟩, rfl⟩
    try simp only [List.cons_append, List.nil_append]
    refine gl_v rfl (o_assign rfl) ?_
    refine gl_nil ?_
    refine ge_then ?_
    refine g_ret ?_
    refine ge_block_ret ?_
    refine ge_then_ret ?_
    obtain rfl : kind = 3 := by omega
    exact ret1 (.inl rfl) rfl rfl  _ ⟨_, rfl, rfl⟩ (To.sat (by repeat (first | exact .nil | exact .done .refl | (apply To.cons; · (repeat (first | exact .head | apply Sel.tail))) | exact .done (by repeat (first | exact .refl | apply Drop.skip)))))
   ·
    first | replace hc3 := of_decide_eq_true hc3 | replace hc3 := lt_f hc3 | replace hc3 := le_f hc3 | replace hc3 := dec_f hc3 | replace hc3 := nlt_t hc3 | replace hc3 := nle_t hc3 | replace hc3 := ndec_t hc3 | replace hc3 := ndec_f hc3 | replace hc3 := nn_t hc3 | replace hc3 := nn_f hc3 | skip
    refine g_skip ?_
    refine ge_block ?_
    refine ge_then ?_
    refine g_seq ?_
    refine g_region ?_
    refine gl_v rfl (o_move rfl) ?_
    refine gl_c rfl (o_call rfl (fns_env (KNow_spec X B)) (by repeat (first | exact .nil | (apply Part.cons; · (repeat (first | exact .head | apply Sel.tail)))))) ?_
    rintro _ R ⟨_, ⟨p, rfl, rfl⟩, rfl⟩
    try simp only [List.cons_append, List.nil_append]
    refine gl_v rfl (o_assign rfl) ?_
    refine gl_nil ?_
    refine ge_then ?_
    refine g_ret ?_
    obtain rfl : kind = 4 := by omega
    exact ret1 (.inl rfl) rfl rfl  _ ⟨_, rfl, rfl⟩ (To.sat (by repeat (first | exact .nil | exact .done .refl | (apply To.cons; · (repeat (first | exact .head | apply Sel.tail))) | exact .done (by repeat (first | exact .refl | apply Drop.skip)))))

set_option maxRecDepth 8000 in
set_option maxHeartbeats 1500000 in
theorem klike_run (X : KX) (B : CB) (p : Nat) (w : Wh) (co : CO) (y : RK) (hr : RelK B w co y) (hv : co.out = 0 → co.val = 0) (hd : co.due.length ≤ 1000) (hcu : co.cut.length ≤ 1000) (hre : co.ref.length ≤ 1000) (h0 : co.out = 0) (hov : y.over = false) : FnS Tryz.prog 39 [ptr p 0, .agg ([I64 (y.kind), I64 (y.pk), U64 (y.v), tl y.a y.c y.l, I64 (y.taken), .bool (y.last), .bool (y.over), I64 (y.out), U64 (y.val), tl y.a0 y.k0 y.due, tl y.a1 y.k1 y.cut, tl y.a2 y.k2 y.ref]).toArray] [opK X B p co, kA y] (fun u Bs => u = .bool true ∧ Bs = [opK X B p co, kA y]) := by
 refine fn_body Tryz.func39 rfl rfl rfl ?_
 intro W0 R
 simp only [List.zipIdx_cons, List.zipIdx_nil, List.map_cons, List.map_nil, Nat.zero_add, Nat.reduceAdd, List.cons_append, List.nil_append]
 have hco : co.over = false := by simp [CO.over, h0]
 refine g_seq ?_
 refine g_region ?_
 refine gl_n rfl (o_boxA rfl) ?_
 rintro _ _ ⟨b3, rfl, rfl⟩
 refine gl_v rfl (o_assign rfl) ?_
 refine gl_nil ?_
 refine ge_then ?_
 refine g_seq ?_
 refine g_seq ?_
 refine g_region ?_
 first | refine gl_v rfl (o_fldS rfl) ?_ | refine gl_v rfl (o_fld rfl) ?_
 first | refine gl_v rfl (o_load rfl rfl) ?_ | refine gl_v rfl (o_loadS rfl rfl) ?_ | refine gl_v rfl (o_loadC rfl) ?_
 refine gl_v rfl (o_is (c := true) (by simp [hov]) (o_not rfl)) ?_
 refine gl_nil ?_
 refine ge_then ?_
 refine g_cond_true rfl ?_
 refine g_seq ?_
 refine g_region ?_
 refine gl_v rfl (o_move rfl) ?_
 refine gl_v rfl (o_nil rfl) ?_
 first | refine gl_v rfl (o_fldS rfl) ?_ | refine gl_v rfl (o_fld rfl) ?_
 refine gl_c rfl (o_call rfl (Over_op X B p co hv) (by repeat (first | exact .nil | (apply Part.cons; · (repeat (first | exact .head | apply Sel.tail)))))) ?_
 rintro _ R ⟨_, ⟨rfl, rfl⟩, rfl⟩
 try simp only [List.cons_append, List.nil_append]
 rw [hco]
 refine gl_v rfl (o_is (c := true) (by rfl) (o_not rfl)) ?_
 refine gl_v rfl (o_move rfl) ?_
 refine gl_gT rfl rfl rfl ?_
 refine gl_v rfl (o_move rfl) ?_
 refine gl_gT rfl rfl rfl ?_
 refine gl_v rfl (o_nil rfl) ?_
 refine gl_gT rfl rfl rfl ?_
 first | refine gl_v rfl (o_fldS rfl) ?_ | refine gl_v rfl (o_fld rfl) ?_
 refine gl_gT rfl rfl rfl ?_
 refine gl_c rfl (o_call rfl (Out_op X B p co hv) (by repeat (first | exact .nil | (apply Part.cons; · (repeat (first | exact .head | apply Sel.tail)))))) ?_
 rintro _ R ⟨_, ⟨rfl, rfl⟩, rfl⟩
 try simp only [List.cons_append, List.nil_append]
 refine gl_gT rfl rfl rfl ?_
 refine gl_v rfl (o_is (c := true) (by simp [h0]) (o_eql rfl rfl)) ?_
 refine gl_v rfl (o_pickT rfl rfl rfl) ?_
 refine gl_v rfl (o_move rfl) ?_
 refine gl_gT rfl rfl rfl ?_
 refine gl_v rfl (o_move rfl) ?_
 refine gl_gT rfl rfl rfl ?_
 refine gl_v rfl (o_nil rfl) ?_
 refine gl_gT rfl rfl rfl ?_
 first | refine gl_v rfl (o_fldS rfl) ?_ | refine gl_v rfl (o_fld rfl) ?_
 refine gl_gT rfl rfl rfl ?_
 refine gl_c rfl (o_call rfl (Val_op X B p co hv) (by repeat (first | exact .nil | (apply Part.cons; · (repeat (first | exact .head | apply Sel.tail)))))) ?_
 rintro _ R ⟨_, ⟨rfl, rfl⟩, rfl⟩
 try simp only [List.cons_append, List.nil_append]
 refine gl_gT rfl rfl rfl ?_
 refine gl_v rfl (o_is (c := true) (by simp [hv h0]) (o_eql rfl rfl)) ?_
 refine gl_v rfl (o_pickT rfl rfl rfl) ?_
 refine gl_v rfl (o_move rfl) ?_
 refine gl_gT rfl rfl rfl ?_
 refine gl_v rfl (o_move rfl) ?_
 refine gl_gT rfl rfl rfl ?_
 refine gl_c rfl (o_call rfl (KDue_spec X B p co hv hd) (by repeat (first | exact .nil | (apply Part.cons; · (repeat (first | exact .head | apply Sel.tail)))))) ?_
 rintro _ R ⟨_, ⟨d0, e0, rfl, rfl⟩, rfl⟩
 try simp only [List.cons_append, List.nil_append]
 rw [show toldL co co.due = [] by unfold toldL; rw [if_pos h0]]
 refine gl_gT rfl rfl rfl ?_
 refine gl_v rfl (o_lenL rfl) ?_
 refine gl_gT rfl rfl rfl ?_
 refine gl_v rfl (o_move rfl) ?_
 refine gl_gT rfl rfl rfl ?_
 refine gl_c rfl (o_call rfl (KCut_spec X B p co hv hcu) (by repeat (first | exact .nil | (apply Part.cons; · (repeat (first | exact .head | apply Sel.tail)))))) ?_
 rintro _ R ⟨_, ⟨d1, e1, rfl, rfl⟩, rfl⟩
 try simp only [List.cons_append, List.nil_append]
 rw [show toldL co co.cut = [] by unfold toldL; rw [if_pos h0]]
 refine gl_gT rfl rfl rfl ?_
 refine gl_v rfl (o_lenL rfl) ?_
 refine gl_gT rfl rfl rfl ?_
 refine gl_v rfl (o_addR 0 (by decide) rfl rfl) ?_
 refine gl_gT rfl rfl rfl ?_
 refine gl_v rfl (o_move rfl) ?_
 refine gl_gT rfl rfl rfl ?_
 refine gl_c rfl (o_call rfl (KRefused_spec X B p co hv hre) (by repeat (first | exact .nil | (apply Part.cons; · (repeat (first | exact .head | apply Sel.tail)))))) ?_
 rintro _ R ⟨_, ⟨d2, e2, rfl, rfl⟩, rfl⟩
 try simp only [List.cons_append, List.nil_append]
 rw [show toldL co co.ref = [] by unfold toldL; rw [if_pos h0]]
 refine gl_gT rfl rfl rfl ?_
 refine gl_v rfl (o_lenL rfl) ?_
 refine gl_gT rfl rfl rfl ?_
 refine gl_v rfl (o_addR 0 (by decide) rfl rfl) ?_
 refine gl_gT rfl rfl rfl ?_
 refine gl_v rfl (o_is (c := true) (by rfl) (o_eql rfl rfl)) ?_
 refine gl_v rfl (o_pickT rfl rfl rfl) ?_
 refine gl_v rfl (o_assign rfl) ?_
 refine gl_nil ?_
 refine ge_then ?_
 refine g_ret ?_
 refine ge_then_ret ?_
 refine ret1 (.inl rfl) rfl rfl [opK X B p co, kA y] (⟨rfl, rfl⟩) (To.sat (by repeat (first | exact .nil | exact .done .refl | (apply To.cons; · (repeat (first | exact .head | apply Sel.tail))) | exact .done (by repeat (first | exact .refl | apply Drop.skip)))))

set_option maxRecDepth 8000 in
set_option maxHeartbeats 1500000 in
theorem klike_ov (X : KX) (B : CB) (p : Nat) (w : Wh) (co : CO) (y : RK) (hr : RelK B w co y) (hv : co.out = 0 → co.val = 0) (hd : co.due.length ≤ 1000) (hcu : co.cut.length ≤ 1000) (hre : co.ref.length ≤ 1000) (h0 : co.out ≠ 0) (hov : y.over = true) : FnS Tryz.prog 39 [ptr p 0, .agg ([I64 (y.kind), I64 (y.pk), U64 (y.v), tl y.a y.c y.l, I64 (y.taken), .bool (y.last), .bool (y.over), I64 (y.out), U64 (y.val), tl y.a0 y.k0 y.due, tl y.a1 y.k1 y.cut, tl y.a2 y.k2 y.ref]).toArray] [opK X B p co, kA y] (fun u Bs => u = .bool true ∧ Bs = [opK X B p co, kA y]) := by
 refine fn_body Tryz.func39 rfl rfl rfl ?_
 intro W0 R
 simp only [List.zipIdx_cons, List.zipIdx_nil, List.map_cons, List.map_nil, Nat.zero_add, Nat.reduceAdd, List.cons_append, List.nil_append]
 have hco : co.over = true := by simp [CO.over, h0]
 refine g_open (ι := Unit) (by repeat (first | exact .head | apply Sel.tail)) ?_
 rintro _ -
 simp only [List.cons_append, List.nil_append]
 refine g_seq ?_
 refine g_region ?_
 refine gl_n rfl (o_boxA rfl) ?_
 rintro _ _ ⟨b3, rfl, rfl⟩
 refine gl_v rfl (o_assign rfl) ?_
 refine gl_nil ?_
 refine ge_then ?_
 refine g_seq ?_
 refine g_seq ?_
 refine g_region ?_
 first | refine gl_v rfl (o_fldS rfl) ?_ | refine gl_v rfl (o_fld rfl) ?_
 first | refine gl_v rfl (o_load rfl rfl) ?_ | refine gl_v rfl (o_loadS rfl rfl) ?_ | refine gl_v rfl (o_loadC rfl) ?_
 refine gl_v rfl (o_is (c := false) (by simp [hov]) (o_not rfl)) ?_
 refine gl_nil ?_
 refine ge_then ?_
 refine g_cond_false rfl ?_
 refine g_skip ?_
 refine ge_then ?_
 refine g_seq ?_
 refine g_draw [3, 8, 17, 24, 27, 31, 34, 38, 41] [8, 17, 24, 31, 38] [(0, .loc), (1, .loc), (2, .loc), (3, .eff), (4, .loc), (5, .loc), (6, .loc), (7, .loc), (9, .stab), (10, .stab), (8, .eff), (11, .loc), (12, .loc), (13, .loc), (14, .loc), (15, .loc), (16, .loc), (18, .stab), (19, .stab), (17, .eff), (20, .loc), (21, .loc), (22, .loc), (23, .loc), (25, .stab), (26, .stab), (24, .eff), (27, .eff), (28, .loc), (29, .loc), (30, .loc), (32, .stab), (33, .stab), (31, .eff), (34, .eff), (35, .loc), (36, .loc), (37, .loc), (39, .stab), (40, .stab), (38, .eff), (41, .eff), (42, .loc), (43, .loc)] [cel b3 76 ([I64 (y.kind), I64 (y.pk), U64 (y.v), tl y.a y.c y.l, I64 (y.taken), .bool (y.last), .bool (y.over), I64 (y.out), U64 (y.val), tl y.a0 y.k0 y.due, tl y.a1 y.k1 y.cut, tl y.a2 y.k2 y.ref])] mixed (by kernel_rfl) ?_
 refine go_v rfl .none rfl (o_move rfl) ?_
 refine go_v rfl .none rfl (o_nil rfl) ?_
 first | refine go_v rfl .none rfl (o_fldS rfl) ?_ | refine go_v rfl .none rfl (o_fld rfl) ?_
 refine go_c rfl .none rfl (o_call rfl (Over_op X B p co hv) (by repeat (first | exact .nil | (apply Part.cons; · (repeat (first | exact .head | apply Sel.tail)))))) ?_
 rintro _ R ⟨_, ⟨rfl, rfl⟩, rfl⟩
 try simp only [List.cons_append, List.nil_append]
 rw [hco]
 refine ⟨(fun hG => absurd hG (by decide)), ?_⟩
 refine go_v rfl .none rfl (o_move rfl) ?_
 refine go_v rfl (.yes rfl rfl rfl) rfl (o_move rfl) ?_
 refine go_v rfl (.yes rfl rfl rfl) rfl (o_nil rfl) ?_
 first | refine go_v rfl (.yes rfl rfl rfl) rfl (o_fldS rfl) ?_ | refine go_v rfl (.yes rfl rfl rfl) rfl (o_fld rfl) ?_
 first | refine go_vs rfl (.yes rfl rfl rfl) rfl (o_fldS rfl) (To.sat (by repeat (first | exact .nil | exact .done .refl | (apply To.cons; · (repeat (first | exact .head | apply Sel.tail))) | exact .done (by repeat (first | exact .refl | apply Drop.skip))))) ?_ | refine go_vs rfl (.yes rfl rfl rfl) rfl (o_fld rfl) (To.sat (by repeat (first | exact .nil | exact .done .refl | (apply To.cons; · (repeat (first | exact .head | apply Sel.tail))) | exact .done (by repeat (first | exact .refl | apply Drop.skip))))) ?_
 first | refine go_vs rfl (.yes rfl rfl rfl) rfl (o_load rfl rfl) (To.sat (by repeat (first | exact .nil | exact .done .refl | (apply To.cons; · (repeat (first | exact .head | apply Sel.tail))) | exact .done (by repeat (first | exact .refl | apply Drop.skip))))) ?_ | refine go_vs rfl (.yes rfl rfl rfl) rfl (o_loadS rfl rfl) (To.sat (by repeat (first | exact .nil | exact .done .refl | (apply To.cons; · (repeat (first | exact .head | apply Sel.tail))) | exact .done (by repeat (first | exact .refl | apply Drop.skip))))) ?_ | refine go_vs rfl (.yes rfl rfl rfl) rfl (o_loadC rfl) (To.sat (by repeat (first | exact .nil | exact .done .refl | (apply To.cons; · (repeat (first | exact .head | apply Sel.tail))) | exact .done (by repeat (first | exact .refl | apply Drop.skip))))) ?_
 refine go_c rfl (.yes rfl rfl rfl) rfl (o_call rfl (Out_op X B p co hv) (by repeat (first | exact .nil | (apply Part.cons; · (repeat (first | exact .head | apply Sel.tail)))))) ?_
 rintro _ R ⟨_, ⟨rfl, rfl⟩, rfl⟩
 try simp only [List.cons_append, List.nil_append]
 refine ⟨(fun _ => (To.sat (by repeat (first | exact .nil | exact .done .refl | (apply To.cons; · (repeat (first | exact .head | apply Sel.tail))) | exact .done (by repeat (first | exact .refl | apply Drop.skip)))))), ?_⟩
 refine go_v rfl (.yes rfl rfl rfl) rfl (o_is (c := true) (by simp [hr.out]) (o_eql rfl rfl)) ?_
 refine go_v rfl .none rfl (o_pickT rfl rfl rfl) ?_
 refine go_v rfl .none rfl (o_move rfl) ?_
 refine go_v rfl (.yes rfl rfl rfl) rfl (o_move rfl) ?_
 refine go_v rfl (.yes rfl rfl rfl) rfl (o_nil rfl) ?_
 first | refine go_v rfl (.yes rfl rfl rfl) rfl (o_fldS rfl) ?_ | refine go_v rfl (.yes rfl rfl rfl) rfl (o_fld rfl) ?_
 first | refine go_vs rfl (.yes rfl rfl rfl) rfl (o_fldS rfl) (To.sat (by repeat (first | exact .nil | exact .done .refl | (apply To.cons; · (repeat (first | exact .head | apply Sel.tail))) | exact .done (by repeat (first | exact .refl | apply Drop.skip))))) ?_ | refine go_vs rfl (.yes rfl rfl rfl) rfl (o_fld rfl) (To.sat (by repeat (first | exact .nil | exact .done .refl | (apply To.cons; · (repeat (first | exact .head | apply Sel.tail))) | exact .done (by repeat (first | exact .refl | apply Drop.skip))))) ?_
 first | refine go_vs rfl (.yes rfl rfl rfl) rfl (o_load rfl rfl) (To.sat (by repeat (first | exact .nil | exact .done .refl | (apply To.cons; · (repeat (first | exact .head | apply Sel.tail))) | exact .done (by repeat (first | exact .refl | apply Drop.skip))))) ?_ | refine go_vs rfl (.yes rfl rfl rfl) rfl (o_loadS rfl rfl) (To.sat (by repeat (first | exact .nil | exact .done .refl | (apply To.cons; · (repeat (first | exact .head | apply Sel.tail))) | exact .done (by repeat (first | exact .refl | apply Drop.skip))))) ?_ | refine go_vs rfl (.yes rfl rfl rfl) rfl (o_loadC rfl) (To.sat (by repeat (first | exact .nil | exact .done .refl | (apply To.cons; · (repeat (first | exact .head | apply Sel.tail))) | exact .done (by repeat (first | exact .refl | apply Drop.skip))))) ?_
 refine go_c rfl (.yes rfl rfl rfl) rfl (o_call rfl (Val_op X B p co hv) (by repeat (first | exact .nil | (apply Part.cons; · (repeat (first | exact .head | apply Sel.tail)))))) ?_
 rintro _ R ⟨_, ⟨rfl, rfl⟩, rfl⟩
 try simp only [List.cons_append, List.nil_append]
 refine ⟨(fun _ => (To.sat (by repeat (first | exact .nil | exact .done .refl | (apply To.cons; · (repeat (first | exact .head | apply Sel.tail))) | exact .done (by repeat (first | exact .refl | apply Drop.skip)))))), ?_⟩
 refine go_v rfl (.yes rfl rfl rfl) rfl (o_is (c := true) (by simp [hr.val]) (o_eql rfl rfl)) ?_
 refine go_v rfl .none rfl (o_pickT rfl rfl rfl) ?_
 refine go_v rfl .none rfl (o_move rfl) ?_
 refine go_v rfl (.yes rfl rfl rfl) rfl (o_move rfl) ?_
 first | refine go_vs rfl (.yes rfl rfl rfl) rfl (o_fldS rfl) (To.sat (by repeat (first | exact .nil | exact .done .refl | (apply To.cons; · (repeat (first | exact .head | apply Sel.tail))) | exact .done (by repeat (first | exact .refl | apply Drop.skip))))) ?_ | refine go_vs rfl (.yes rfl rfl rfl) rfl (o_fld rfl) (To.sat (by repeat (first | exact .nil | exact .done .refl | (apply To.cons; · (repeat (first | exact .head | apply Sel.tail))) | exact .done (by repeat (first | exact .refl | apply Drop.skip))))) ?_
 first | refine go_vs rfl (.yes rfl rfl rfl) rfl (o_load rfl rfl) (To.sat (by repeat (first | exact .nil | exact .done .refl | (apply To.cons; · (repeat (first | exact .head | apply Sel.tail))) | exact .done (by repeat (first | exact .refl | apply Drop.skip))))) ?_ | refine go_vs rfl (.yes rfl rfl rfl) rfl (o_loadS rfl rfl) (To.sat (by repeat (first | exact .nil | exact .done .refl | (apply To.cons; · (repeat (first | exact .head | apply Sel.tail))) | exact .done (by repeat (first | exact .refl | apply Drop.skip))))) ?_ | refine go_vs rfl (.yes rfl rfl rfl) rfl (o_loadC rfl) (To.sat (by repeat (first | exact .nil | exact .done .refl | (apply To.cons; · (repeat (first | exact .head | apply Sel.tail))) | exact .done (by repeat (first | exact .refl | apply Drop.skip))))) ?_
 refine go_c rfl (.yes rfl rfl rfl) rfl (o_call rfl (KDue_spec X B p co hv hd) (by repeat (first | exact .nil | (apply Part.cons; · (repeat (first | exact .head | apply Sel.tail)))))) ?_
 rintro _ R ⟨_, ⟨d0, e0, rfl, rfl⟩, rfl⟩
 try simp only [List.cons_append, List.nil_append]
 rw [show toldL co co.due = y.due by unfold toldL; rw [if_neg h0, hr.due]]
 refine ⟨(fun _ => (To.sat (by repeat (first | exact .nil | exact .done .refl | (apply To.cons; · (repeat (first | exact .head | apply Sel.tail))) | exact .done (by repeat (first | exact .refl | apply Drop.skip)))))), ?_⟩
 refine go_c rfl (.yes rfl rfl rfl) rfl (o_call rfl (rSame_spec (tl d0 e0 y.due) (tl y.a0 y.k0 y.due) y.due y.due (by rw [hr.due]; omega) (by rw [hr.due]; omega) (tlA d0 e0 y.due) (tlA y.a0 y.k0 y.due)) (by repeat (first | exact .nil | (apply Part.cons; · (repeat (first | exact .head | apply Sel.tail)))))) ?_
 rintro _ R ⟨_, ⟨rfl, rfl⟩, rfl⟩
 try simp only [List.cons_append, List.nil_append]
 refine ⟨(fun hG => absurd hG (by decide)), ?_⟩
 refine go_v rfl .none rfl (o_pickT rfl rfl rfl) ?_
 refine go_v rfl .none rfl (o_move rfl) ?_
 refine go_v rfl (.yes rfl rfl (by first | rfl | simp)) rfl (o_move rfl) ?_
 first | refine go_vs rfl (.yes rfl rfl (by first | rfl | simp)) rfl (o_fldS rfl) (To.sat (by repeat (first | exact .nil | exact .done .refl | (apply To.cons; · (repeat (first | exact .head | apply Sel.tail))) | exact .done (by repeat (first | exact .refl | apply Drop.skip))))) ?_ | refine go_vs rfl (.yes rfl rfl (by first | rfl | simp)) rfl (o_fld rfl) (To.sat (by repeat (first | exact .nil | exact .done .refl | (apply To.cons; · (repeat (first | exact .head | apply Sel.tail))) | exact .done (by repeat (first | exact .refl | apply Drop.skip))))) ?_
 first | refine go_vs rfl (.yes rfl rfl (by first | rfl | simp)) rfl (o_load rfl rfl) (To.sat (by repeat (first | exact .nil | exact .done .refl | (apply To.cons; · (repeat (first | exact .head | apply Sel.tail))) | exact .done (by repeat (first | exact .refl | apply Drop.skip))))) ?_ | refine go_vs rfl (.yes rfl rfl (by first | rfl | simp)) rfl (o_loadS rfl rfl) (To.sat (by repeat (first | exact .nil | exact .done .refl | (apply To.cons; · (repeat (first | exact .head | apply Sel.tail))) | exact .done (by repeat (first | exact .refl | apply Drop.skip))))) ?_ | refine go_vs rfl (.yes rfl rfl (by first | rfl | simp)) rfl (o_loadC rfl) (To.sat (by repeat (first | exact .nil | exact .done .refl | (apply To.cons; · (repeat (first | exact .head | apply Sel.tail))) | exact .done (by repeat (first | exact .refl | apply Drop.skip))))) ?_
 refine go_c rfl (.yes rfl rfl (by first | rfl | simp)) rfl (o_call rfl (KCut_spec X B p co hv hcu) (by repeat (first | exact .nil | (apply Part.cons; · (repeat (first | exact .head | apply Sel.tail)))))) ?_
 rintro _ R ⟨_, ⟨d1, e1, rfl, rfl⟩, rfl⟩
 try simp only [List.cons_append, List.nil_append]
 rw [show toldL co co.cut = y.cut by unfold toldL; rw [if_neg h0, hr.cut]]
 refine ⟨(fun _ => (To.sat (by repeat (first | exact .nil | exact .done .refl | (apply To.cons; · (repeat (first | exact .head | apply Sel.tail))) | exact .done (by repeat (first | exact .refl | apply Drop.skip)))))), ?_⟩
 refine go_c rfl (.yes rfl rfl (by first | rfl | simp)) rfl (o_call rfl (rSame_spec (tl d1 e1 y.cut) (tl y.a1 y.k1 y.cut) y.cut y.cut (by rw [hr.cut]; omega) (by rw [hr.cut]; omega) (tlA d1 e1 y.cut) (tlA y.a1 y.k1 y.cut)) (by repeat (first | exact .nil | (apply Part.cons; · (repeat (first | exact .head | apply Sel.tail)))))) ?_
 rintro _ R ⟨_, ⟨rfl, rfl⟩, rfl⟩
 try simp only [List.cons_append, List.nil_append]
 refine ⟨(fun hG => absurd hG (by decide)), ?_⟩
 refine go_v rfl .none rfl (o_pickT (by first | rfl | simp) rfl rfl) ?_
 refine go_v rfl .none rfl (o_move rfl) ?_
 refine go_v rfl (.yes rfl rfl (by first | rfl | simp)) rfl (o_move rfl) ?_
 first | refine go_vs rfl (.yes rfl rfl (by first | rfl | simp)) rfl (o_fldS rfl) (To.sat (by repeat (first | exact .nil | exact .done .refl | (apply To.cons; · (repeat (first | exact .head | apply Sel.tail))) | exact .done (by repeat (first | exact .refl | apply Drop.skip))))) ?_ | refine go_vs rfl (.yes rfl rfl (by first | rfl | simp)) rfl (o_fld rfl) (To.sat (by repeat (first | exact .nil | exact .done .refl | (apply To.cons; · (repeat (first | exact .head | apply Sel.tail))) | exact .done (by repeat (first | exact .refl | apply Drop.skip))))) ?_
 first | refine go_vs rfl (.yes rfl rfl (by first | rfl | simp)) rfl (o_load rfl rfl) (To.sat (by repeat (first | exact .nil | exact .done .refl | (apply To.cons; · (repeat (first | exact .head | apply Sel.tail))) | exact .done (by repeat (first | exact .refl | apply Drop.skip))))) ?_ | refine go_vs rfl (.yes rfl rfl (by first | rfl | simp)) rfl (o_loadS rfl rfl) (To.sat (by repeat (first | exact .nil | exact .done .refl | (apply To.cons; · (repeat (first | exact .head | apply Sel.tail))) | exact .done (by repeat (first | exact .refl | apply Drop.skip))))) ?_ | refine go_vs rfl (.yes rfl rfl (by first | rfl | simp)) rfl (o_loadC rfl) (To.sat (by repeat (first | exact .nil | exact .done .refl | (apply To.cons; · (repeat (first | exact .head | apply Sel.tail))) | exact .done (by repeat (first | exact .refl | apply Drop.skip))))) ?_
 refine go_c rfl (.yes rfl rfl (by first | rfl | simp)) rfl (o_call rfl (KRefused_spec X B p co hv hre) (by repeat (first | exact .nil | (apply Part.cons; · (repeat (first | exact .head | apply Sel.tail)))))) ?_
 rintro _ R ⟨_, ⟨d2, e2, rfl, rfl⟩, rfl⟩
 try simp only [List.cons_append, List.nil_append]
 rw [show toldL co co.ref = y.ref by unfold toldL; rw [if_neg h0, hr.ref]]
 refine ⟨(fun _ => (To.sat (by repeat (first | exact .nil | exact .done .refl | (apply To.cons; · (repeat (first | exact .head | apply Sel.tail))) | exact .done (by repeat (first | exact .refl | apply Drop.skip)))))), ?_⟩
 refine go_c rfl (.yes rfl rfl (by first | rfl | simp)) rfl (o_call rfl (rSame_spec (tl d2 e2 y.ref) (tl y.a2 y.k2 y.ref) y.ref y.ref (by rw [hr.ref]; omega) (by rw [hr.ref]; omega) (tlA d2 e2 y.ref) (tlA y.a2 y.k2 y.ref)) (by repeat (first | exact .nil | (apply Part.cons; · (repeat (first | exact .head | apply Sel.tail)))))) ?_
 rintro _ R ⟨_, ⟨rfl, rfl⟩, rfl⟩
 try simp only [List.cons_append, List.nil_append]
 refine ⟨(fun hG => absurd hG (by decide)), ?_⟩
 refine go_v rfl .none rfl (o_pickT (by first | rfl | simp) rfl rfl) ?_
 refine go_v rfl .none rfl (o_assign rfl) ?_
 refine go_nil ?_
 refine ge_then ?_
 refine g_ret ?_
 refine ret1 (.inl rfl) rfl rfl [opK X B p co, kA y] (⟨by simp, rfl⟩) (fun h s => Sat.swap (kA_close (R := opK X B p co :: _) (To.sat (by repeat (first | exact .nil | exact .done .refl | (apply To.cons; · (repeat (first | exact .head | apply Sel.tail))) | exact .done (by repeat (first | exact .refl | apply Drop.skip))))) h s))

theorem klike_spec (X : KX) (B : CB) (p : Nat) (w : Wh) (co : CO) (y : RK) (hr : RelK B w co y) (hv : co.out = 0 → co.val = 0) (hd : co.due.length ≤ 1000) (hcu : co.cut.length ≤ 1000) (hre : co.ref.length ≤ 1000) : FnS Tryz.prog 39 [ptr p 0, .agg ([I64 (y.kind), I64 (y.pk), U64 (y.v), tl y.a y.c y.l, I64 (y.taken), .bool (y.last), .bool (y.over), I64 (y.out), U64 (y.val), tl y.a0 y.k0 y.due, tl y.a1 y.k1 y.cut, tl y.a2 y.k2 y.ref]).toArray] [opK X B p co, kA y] (fun u Bs => u = .bool true ∧ Bs = [opK X B p co, kA y]) := by
  by_cases h0 : co.out = 0
  · exact klike_run X B p w co y hr hv hd hcu hre h0 (by rw [hr.over]; simp [CO.over, h0])
  · exact klike_ov X B p w co y hr hv hd hcu hre h0 (by rw [hr.over]; simp [CO.over, h0])

set_option maxRecDepth 8000 in
set_option maxHeartbeats 4000000 in
theorem kplays_spec (s s2 : Nat) (hs : s ≤ 255) (hs2 : s2 ≤ 255) (a : Option Addr) (c : Nat) (vs : List (Int × Int × Int × Int)) (hvs : ∀ q ∈ vs, (0 ≤ q.1 ∧ q.1 ≤ 255) ∧ (0 ≤ q.2.1 ∧ q.2.1 ≤ 255) ∧ (0 ≤ q.2.2.1 ∧ q.2.2.1 ≤ 18446744073709551615)) (hm : vs.length ≤ 140737488351232) (A : Assn) [RdA (.slice a vs.length c) A vs.length (vs.flatMap sV4)] : FnS Tryz.prog 7 [.int .u8 s, .int .u8 s2, .slice a vs.length c] [A] (fun u Bs => u = .bool true ∧ Bs = [A]) := by
 refine fn_body Tryz.func7 rfl rfl rfl ?_
 intro W0 R
 simp only [List.zipIdx_cons, List.zipIdx_nil, List.map_cons, List.map_nil, Nat.zero_add, Nat.reduceAdd, List.cons_append, List.nil_append]
 obtain ⟨n, hn⟩ : ∃ n, n = 1 + s % 5 := ⟨_, rfl⟩
 obtain ⟨b, hbd⟩ : ∃ b, b = s2 % 4 := ⟨_, rfl⟩
 have h1 : 1 ≤ n := by omega
 have h5 : n ≤ 5 := by omega
 have h64 : n ≤ 64 := by omega
 have hb : b ≤ 3 := by omega
 have hcnt : cnt ((b + 3 + 2 * n + 1 : Nat) : Int) = b + 3 + 2 * n + 1 := by have := cnt_of ((b + 3 + 2 * n + 1 : Nat) : Int) (by omega); omega
 have hci : CI ⟨b, n⟩ (List.replicate (b + 3 + 2 * n + 1) 0) := ⟨h1, h64, by simp only [List.length_replicate]; omega, by simp only [List.length_replicate]; omega⟩
 refine g_seq ?_
 refine g_region ?_
 refine gl_v rfl (o_assign rfl) ?_
 refine gl_nil ?_
 refine ge_then ?_
 refine g_seq ?_
 refine g_seq ?_
 refine g_region ?_
 refine gl_c rfl (o_call rfl (kalive_spec) (by repeat (first | exact .nil | (apply Part.cons; · (repeat (first | exact .head | apply Sel.tail)))))) ?_
 rintro _ R ⟨_, ⟨rfl, rfl⟩, rfl⟩
 try simp only [List.cons_append, List.nil_append]
 refine gl_v rfl (o_not rfl) ?_
 refine gl_nil ?_
 refine ge_then ?_
 refine g_cond_false (rfl) ?_
 refine g_skip ?_
 refine ge_then ?_
 refine g_seq ?_
 refine g_region ?_
 refine gl_v rfl (o_move rfl) ?_
 refine gl_v rfl (o_convR (s2 : Int) (wr_i64 (by omega)) rfl) ?_
 refine gl_v rfl (o_remR (b : Int) ((tmodn s2 4).trans (by rw [hbd])) rfl rfl (by decide)) ?_
 refine gl_v rfl (o_move rfl) ?_
 refine gl_v rfl (o_convR (s : Int) (wr_i64 (by omega)) rfl) ?_
 refine gl_v rfl (o_remR ((s % 5 : Nat) : Int) (tmodn s 5) rfl rfl (by decide)) ?_
 refine gl_v rfl (o_addR ((n : Nat) : Int) (by rw [wr_i64 (by omega)]; omega) rfl rfl) ?_
 refine gl_v rfl (o_build rfl rfl) ?_
 refine gl_n rfl (o_boxA rfl) ?_
 rintro _ _ ⟨b34, rfl, rfl⟩
 refine gl_v rfl (o_assign rfl) ?_
 refine gl_nil ?_
 refine ge_then ?_
 refine g_seq ?_
 refine g_draw [5] [5] [(0, .stab), (1, .stab), (2, .stab), (3, .stab), (4, .loc), (5, .eff), (6, .loc), (7, .loc), (8, .loc)] [cel b34 49 [I64 b, I64 n, I64 0, .slice none 0 0, .slice none 0 0]] mixed (by kernel_rfl) ?_
 refine go_vs rfl .none rfl (o_move rfl) (To.sat (by repeat (first | exact .nil | exact .done .refl | (apply To.cons; · (repeat (first | exact .head | apply Sel.tail))) | exact .done (by repeat (first | exact .refl | apply Drop.skip))))) ?_
 refine go_vs rfl .none rfl (o_nil rfl) (To.sat (by repeat (first | exact .nil | exact .done .refl | (apply To.cons; · (repeat (first | exact .head | apply Sel.tail))) | exact .done (by repeat (first | exact .refl | apply Drop.skip))))) ?_
 first | refine go_vs rfl .none rfl (o_fldS rfl) (To.sat (by repeat (first | exact .nil | exact .done .refl | (apply To.cons; · (repeat (first | exact .head | apply Sel.tail))) | exact .done (by repeat (first | exact .refl | apply Drop.skip))))) ?_ | refine go_vs rfl .none rfl (o_fld rfl) (To.sat (by repeat (first | exact .nil | exact .done .refl | (apply To.cons; · (repeat (first | exact .head | apply Sel.tail))) | exact .done (by repeat (first | exact .refl | apply Drop.skip))))) ?_
 first | refine go_vs rfl .none rfl (o_load rfl rfl) (To.sat (by repeat (first | exact .nil | exact .done .refl | (apply To.cons; · (repeat (first | exact .head | apply Sel.tail))) | exact .done (by repeat (first | exact .refl | apply Drop.skip))))) ?_ | refine go_vs rfl .none rfl (o_loadS rfl rfl) (To.sat (by repeat (first | exact .nil | exact .done .refl | (apply To.cons; · (repeat (first | exact .head | apply Sel.tail))) | exact .done (by repeat (first | exact .refl | apply Drop.skip))))) ?_ | refine go_vs rfl .none rfl (o_loadC rfl) (To.sat (by repeat (first | exact .nil | exact .done .refl | (apply To.cons; · (repeat (first | exact .head | apply Sel.tail))) | exact .done (by repeat (first | exact .refl | apply Drop.skip))))) ?_
 refine go_v rfl .none rfl (o_move rfl) ?_
 refine go_c rfl .none rfl (o_call rfl (kcSize_spec b34 b n [I64 0, .slice none 0 0, .slice none 0 0] (by omega)) (by repeat (first | exact .nil | (apply Part.cons; · (repeat (first | exact .head | apply Sel.tail)))))) ?_
 rintro _ R ⟨_, ⟨rfl, rfl⟩, rfl⟩
 try simp only [List.cons_append, List.nil_append]
 refine ⟨(fun _ => (To.sat (by repeat (first | exact .nil | exact .done .refl | (apply To.cons; · (repeat (first | exact .head | apply Sel.tail))) | exact .done (by repeat (first | exact .refl | apply Drop.skip)))))), ?_⟩
 refine go_v rfl .none rfl (o_addR ((b + 3 + 2 * n : Nat) : Int) (by rw [wr_i64 (by omega)]; omega) rfl rfl) ?_
 refine go_v rfl .none rfl (o_addR ((b + 3 + 2 * n + 1 : Nat) : Int) (by rw [wr_i64 (by omega)]; omega) rfl rfl) ?_
 refine go_v rfl .none rfl (o_assign rfl) ?_
 refine go_nil ?_
 refine ge_then ?_
 refine g_seq ?_
 refine g_region ?_
 refine gl_v rfl (o_move rfl) ?_
 refine gl_c rfl (o_call rfl (New_spec ((b + 3 + 2 * n + 1 : Nat) : Int)) (by repeat (first | exact .nil | (apply Part.cons; · (repeat (first | exact .head | apply Sel.tail)))))) ?_
 rintro _ R ⟨_, ⟨m, rfl, rfl⟩, rfl⟩
 try simp only [List.cons_append, List.nil_append]
 rw [hcnt]
 refine gl_v rfl (o_assign rfl) ?_
 refine gl_nil ?_
 refine ge_then ?_
 refine g_seq ?_
 refine g_draw [9] [] [(0, .loc), (1, .loc), (2, .loc), (3, .loc), (4, .loc), (5, .loc), (6, .loc), (7, .loc), (8, .loc), (9, .eff), (10, .loc), (11, .loc), (12, .loc), (13, .loc), (14, .loc)] [cel b34 49 [I64 b, I64 n, I64 0, .slice none 0 0, .slice none 0 0]] mixed (by kernel_rfl) ?_
 refine go_v rfl .none rfl (o_move rfl) ?_
 refine go_v rfl .none rfl (o_move rfl) ?_
 refine go_v rfl .none rfl (o_nil rfl) ?_
 first | refine go_v rfl .none rfl (o_fldS rfl) ?_ | refine go_v rfl .none rfl (o_fld rfl) ?_
 first | refine go_v rfl .none rfl (o_load rfl rfl) ?_ | refine go_v rfl .none rfl (o_loadS rfl rfl) ?_ | refine go_v rfl .none rfl (o_loadC rfl) ?_
 refine go_v rfl .none rfl (o_move rfl) ?_
 refine go_v rfl .none rfl (o_nil rfl) ?_
 first | refine go_v rfl .none rfl (o_fldS rfl) ?_ | refine go_v rfl .none rfl (o_fld rfl) ?_
 first | refine go_v rfl .none rfl (o_load rfl rfl) ?_ | refine go_v rfl .none rfl (o_loadS rfl rfl) ?_ | refine go_v rfl .none rfl (o_loadC rfl) ?_
 refine go_c rfl .none rfl (o_call rfl (kMake_spec m b n (List.replicate (b + 3 + 2 * n + 1) 0) 0 hci) (by repeat (first | exact .nil | (apply Part.cons; · (repeat (first | exact .head | apply Sel.tail)))))) ?_
 rintro _ R ⟨_, ⟨X, rfl, rfl, rfl⟩, rfl⟩
 try simp only [List.cons_append, List.nil_append]
 rw [zap_rep]
 refine ⟨(fun hG => absurd hG (by decide)), ?_⟩
 refine go_v rfl .none rfl (o_move rfl) ?_
 refine go_v rfl .none rfl (o_extract rfl rfl) ?_
 refine go_v rfl .none rfl (o_extract rfl rfl) ?_
 refine go_v rfl .none rfl (o_assign rfl) ?_
 refine go_v rfl .none rfl (o_assign rfl) ?_
 refine go_nil ?_
 refine ge_then ?_
 refine g_seq ?_
 refine g_seq ?_
 refine g_region ?_
 refine gl_v rfl (o_move rfl) ?_
 refine gl_v rfl (o_is (c := false) (by rfl) (o_neq rfl rfl)) ?_
 refine gl_v rfl (o_move rfl) ?_
 refine gl_gT rfl rfl rfl ?_
 refine gl_v rfl (o_move rfl) ?_
 refine gl_gT rfl rfl rfl ?_
 refine gl_v rfl (o_is (c := false) rfl (o_eqlPn rfl rfl)) ?_
 refine gl_v rfl (o_pickF rfl rfl rfl) ?_
 refine gl_v rfl (o_move rfl) ?_
 refine gl_gT rfl rfl rfl ?_
 refine gl_v rfl (o_move rfl) ?_
 refine gl_gT rfl rfl rfl ?_
 refine gl_v rfl (o_nil rfl) ?_
 refine gl_gT rfl rfl rfl ?_
 first | refine gl_v rfl (o_fldS rfl) ?_ | refine gl_v rfl (o_fld rfl) ?_
 refine gl_gT rfl rfl rfl ?_
 first | refine gl_v rfl (o_load rfl rfl) ?_ | refine gl_v rfl (o_loadS rfl rfl) ?_ | refine gl_v rfl (o_loadC rfl) ?_
 refine gl_gT rfl rfl rfl ?_
 refine gl_c rfl (o_call rfl (kSize_ok h1 h64) (by repeat (first | exact .nil | (apply Part.cons; · (repeat (first | exact .head | apply Sel.tail)))))) ?_
 rintro _ R ⟨_, ⟨rfl, rfl⟩, rfl⟩
 try simp only [List.cons_append, List.nil_append]
 refine gl_gT rfl rfl rfl ?_
 refine gl_v rfl (o_move rfl) ?_
 refine gl_gT rfl rfl rfl ?_
 refine gl_c rfl (o_call rfl (kcSize_spec b34 b n [I64 0, .slice none 0 0, .slice none 0 0] (by omega)) (by repeat (first | exact .nil | (apply Part.cons; · (repeat (first | exact .head | apply Sel.tail)))))) ?_
 rintro _ R ⟨_, ⟨rfl, rfl⟩, rfl⟩
 try simp only [List.cons_append, List.nil_append]
 refine gl_gT rfl rfl rfl ?_
 refine gl_v rfl (o_is (c := false) (by simp) (o_neq rfl rfl)) ?_
 refine gl_v rfl (o_pickF rfl rfl rfl) ?_
 refine gl_nil ?_
 refine ge_then ?_
 refine g_cond_false rfl ?_
 refine g_skip ?_
 refine ge_then ?_
 refine g_seq ?_
 refine g_region ?_
 refine gl_v rfl (o_move rfl) ?_
 refine gl_c rfl (o_call rfl (rNew_spec ((b + 3 + 2 * n + 1 : Nat) : Int)) (by repeat (first | exact .nil | (apply Part.cons; · (repeat (first | exact .head | apply Sel.tail)))))) ?_
 rintro _ R ⟨_, ⟨q, rfl, rfl⟩, rfl⟩
 try simp only [List.cons_append, List.nil_append]
 rw [hcnt]
 refine gl_v rfl (o_assign rfl) ?_
 refine gl_nil ?_
 refine ge_then ?_
 refine g_seq ?_
 refine g_region ?_
 refine gl_v rfl (o_move rfl) ?_
 refine gl_v rfl (o_move rfl) ?_
 refine gl_c rfl (o_call rfl (kcLay_spec q b34 b n (List.replicate (b + 3 + 2 * n + 1) 0) 0 [I64 0, .slice none 0 0, .slice none 0 0] hci) (by repeat (first | exact .nil | (apply Part.cons; · (repeat (first | exact .head | apply Sel.tail)))))) ?_
 rintro _ R ⟨_, ⟨rfl, rfl⟩, rfl⟩
 try simp only [List.cons_append, List.nil_append]
 rw [zap_rep]
 refine gl_nil ?_
 refine ge_then ?_
 refine g_seq ?_
 refine g_region ?_
 refine gl_n rfl (o_makeS (k := 5) rfl rfl (by unfold maxLen; omega) (by omega)) ?_
 rintro _ _ ⟨a79, c79, rfl, rfl⟩
 refine gl_v rfl (o_assign rfl) ?_
 refine gl_nil ?_
 refine ge_then ?_
 refine g_seq ?_
 refine g_region ?_
 refine gl_n rfl (o_makeS (k := 5) rfl rfl (by unfold maxLen; omega) (by omega)) ?_
 rintro _ _ ⟨a80, c80, rfl, rfl⟩
 refine gl_v rfl (o_assign rfl) ?_
 refine gl_nil ?_
 refine ge_then ?_
 refine g_seq ?_
 refine g_seq ?_
 refine g_imp (fun h s => kplays_start (X := X) (b := b) (n := n) h (Sel.to (A := cel b34 49 [I64 b, I64 n, I64 0, .slice none 0 0, .slice none 0 0]) (by repeat (first | exact .head | apply Sel.tail)) s)) ?_
 refine g_region ?_
 refine gl_v rfl (o_assign rfl) ?_
 refine gl_nil ?_
 refine ge_then ?_
 refine g_block ?_
 refine g_loop (ι := Nat × List Int × Int × Int × Wh × List (Option (Nat × CO)) × List RK) (fun x => RKS (⟨b, n⟩ : CB) x.1 x.2.1 x.2.2.2.2.1 x.2.2.2.2.2.1 x.2.2.2.2.2.2 ∧ x.1 ≤ 400 ∧ x.1 ≤ vs.length ∧ 0 ≤ x.2.2.1 ∧ x.2.2.1 ≤ 1000 + (x.1 : Int)) (fun x => [(15, I64 x.1), (14, .slice a80 5 c80), (13, .slice a79 5 c79), (12, ptr q 0), (10, ptr X.c 0), (9, ptr X.m 0), (7, ptr b34 0), (2, .slice a vs.length c)]) (fun x => envK X (⟨b, n⟩ : CB) x.2.1 x.2.2.1 x.2.2.2.2.1 :: rclk b34 (⟨b, n⟩ : CB) x.2.2.2.2.1 :: rmemA q x.2.1 x.2.2.2.1 :: own (.slice a79 5 c79) 29 1 5 (x.2.2.2.2.2.1.map oVK) :: own (.slice a80 5 c80) 76 12 5 (x.2.2.2.2.2.2.flatMap kV) :: fam (x.2.2.2.2.2.1.map (oK X (⟨b, n⟩ : CB))) :: fam (x.2.2.2.2.2.2.map kA) :: A :: R) (fun x => 400 - x.1) (0, List.replicate (b + 3 + 2 * n + 1) 0, tupN (3 + 2 * n) 0, 0, (⟨0, 0, []⟩ : Wh), List.replicate 5 none, List.replicate 5 y0) (⟨RKS.start h1 h5 hb, Nat.zero_le _, Nat.zero_le _, by show 0 ≤ tupN (3 + 2 * n) 0; rw [tupN_of _ (by omega)]; omega, by show tupN (3 + 2 * n) 0 ≤ 1000 + ((0 : Nat) : Int); rw [tupN_of _ (by omega)]; omega⟩) (Keep.cons rfl (Keep.cons rfl (Keep.cons rfl (Keep.cons rfl (Keep.cons rfl (Keep.cons rfl (Keep.cons rfl (Keep.cons rfl (Keep.nil))))))))) (To.sat (by repeat (first | exact .nil | exact .done .refl | (apply To.cons; · (repeat (first | exact .head | apply Sel.tail))) | exact .done (by repeat (first | exact .refl | apply Drop.skip))))) ?_
 rintro ⟨i, L, t, tr, w, xs, ys⟩ ⟨hS, hi, hiv, ht0, ht1⟩
 have hS : RKS (⟨b, n⟩ : CB) i L w xs ys := hS
 have hi : i ≤ 400 := hi
 have hiv : i ≤ vs.length := hiv
 have ht0 : 0 ≤ t := ht0
 have ht1 : t ≤ 1000 + (i : Int) := ht1
 dsimp only
 refine g_seq ?_
 refine g_seq ?_
 refine g_region ?_
 refine gl_v rfl (o_move rfl) ?_
 refine gl_v rfl (o_move rfl) ?_
 first | refine gl_v rfl (o_len rfl) ?_ | refine gl_v rfl (o_lenL rfl) ?_
 refine gl_v rfl (o_lss rfl rfl) ?_
 refine gl_v rfl (o_move rfl) ?_
 refine gl_g rfl rfl (fun hc1 => ?_) (fun hc1 => ?_) rfl
 ·
  have hc1' := hc1
  first | replace hc1' := of_decide_eq_true hc1' | replace hc1' := lt_f hc1' | replace hc1' := le_f hc1' | replace hc1' := dec_f hc1' | replace hc1' := nlt_t hc1' | replace hc1' := nle_t hc1' | replace hc1' := ndec_t hc1' | replace hc1' := ndec_f hc1' | replace hc1' := nn_t hc1' | replace hc1' := nn_f hc1' | skip
  refine gl_v rfl (o_move rfl) ?_
  refine gl_gT rfl rfl hc1 ?_
  refine gl_v rfl (o_lss rfl rfl) ?_
  refine gl_v rfl (o_pickT hc1 rfl rfl) ?_
  refine gl_nil ?_
  refine ge_then ?_
  refine g_cond rfl (fun hc2 => ?_) (fun hc2 => ?_)
  ·
   first | replace hc2 := of_decide_eq_true hc2 | replace hc2 := lt_f hc2 | replace hc2 := le_f hc2 | replace hc2 := dec_f hc2 | replace hc2 := nlt_t hc2 | replace hc2 := nle_t hc2 | replace hc2 := ndec_t hc2 | replace hc2 := ndec_f hc2 | replace hc2 := nn_t hc2 | replace hc2 := nn_f hc2 | skip
   refine g_skip ?_
   refine ge_then ?_
   refine g_seq ?_
   refine g_block ?_
   refine g_seq ?_
   have hi1 : i < vs.length := by omega
   have hi4 : i < 400 := by omega
   obtain ⟨⟨k0, t0, id, dl⟩, hq⟩ : ∃ q, vs[i]? = some q := ⟨_, List.getElem?_eq_getElem hi1⟩
   obtain ⟨hr1, hr2, hr3⟩ := hvs _ (List.mem_of_getElem? hq)
   dsimp only at hr1 hr2 hr3
   obtain ⟨tn, htn⟩ : ∃ tn : Nat, (tn : Int) = t0 := ⟨t0.toNat, by omega⟩
   obtain ⟨kn, hkn⟩ : ∃ kn : Nat, (kn : Int) = k0 := ⟨k0.toNat, by omega⟩
   refine g_region ?_
   refine gl_v rfl (o_move rfl) ?_
   refine gl_v rfl (o_move rfl) ?_
   refine gl_v rfl (o_idxS rfl rfl (by first | assumption | omega)) ?_
   refine gl_v rfl (o_loadSA rfl (flat_take sV4 4 (fun _ => rfl) hq) rfl) ?_
   refine gl_n rfl (o_alloc) ?_
   rintro _ _ ⟨b16, rfl, rfl⟩
   first | refine gl_u (o_storeSA rfl rfl rfl rfl (by simp; omega) (by simp)) ?_ | refine gl_u (o_storeA rfl rfl rfl rfl rfl) ?_
   refine gl_nil ?_
   refine ge_then ?_
   refine g_seq ?_
   refine g_region ?_
   first | refine gl_v rfl (o_fldS rfl) ?_ | refine gl_v rfl (o_fld rfl) ?_
   first | refine gl_v rfl (o_load rfl rfl) ?_ | refine gl_v rfl (o_loadS rfl rfl) ?_ | refine gl_v rfl (o_loadC rfl) ?_
   refine gl_v rfl (o_convR (p := t0) (tn : Int) (by rw [htn]; exact wr_i64 (by omega)) rfl) ?_
   refine gl_v rfl (o_remR ((tn % 5 : Nat) : Int) (tmodn tn 5) rfl rfl (by decide)) ?_
   refine gl_v rfl (o_assign rfl) ?_
   refine gl_nil ?_
   generalize hjd : tn % 5 = j
   have hj : j < 5 := by rw [← hjd]; exact Nat.mod_lt _ (by decide)
   refine ge_then ?_
   refine g_seq ?_
   refine g_region ?_
   first | refine gl_v rfl (o_fldS rfl) ?_ | refine gl_v rfl (o_fld rfl) ?_
   first | refine gl_v rfl (o_load rfl rfl) ?_ | refine gl_v rfl (o_loadS rfl rfl) ?_ | refine gl_v rfl (o_loadC rfl) ?_
   refine gl_v rfl (o_convR (p := k0) (kn : Int) (by rw [hkn]; exact wr_i64 (by omega)) rfl) ?_
   refine gl_v rfl (o_remR ((kn % 6 : Nat) : Int) (tmodn kn 6) rfl rfl (by decide)) ?_
   refine gl_v rfl (o_assign rfl) ?_
   refine gl_nil ?_
   generalize hkd : kn % 6 = kd
   refine ge_then ?_
   refine g_cut (fun act wo => ∃ (x : Option (Nat × CO)) (y : RK), xs[j]? = some x ∧ ys[j]? = some y ∧ KP (⟨b, n⟩ : CB) w i x y ∧ HasSl Tryz.f7.ntmps [(19, .bool (idleK x)), (18, I64 kd), (17, I64 j), (16, ptr b16 0), (15, I64 i), (14, .slice a80 5 c80), (13, .slice a79 5 c79), (12, ptr q 0), (10, ptr X.c 0), (9, ptr X.m 0), (7, ptr b34 0), (2, .slice a vs.length c)] act ∧ St W0 (cel b16 72 [.int .u8 k0, .int .u8 t0, U64 id, I64 dl] :: envK X (⟨b, n⟩ : CB) L t w :: rclk b34 (⟨b, n⟩ : CB) w :: rmemA q L tr :: own (.slice a79 5 c79) 29 1 5 (xs.map oVK) :: own (.slice a80 5 c80) 76 12 5 (ys.flatMap kV) :: fam (xs.map (oK X (⟨b, n⟩ : CB))) :: fam (ys.map kA) :: A :: R) wo) ?_ ?_
   ·
    obtain ⟨x, y, hx, hy, hxy⟩ := hS.all j hj
    have hxv : (xs.map oVK)[j * 1]? = some (oVK x) := by rw [Nat.mul_one]; exact map_at' hx
    refine g_region ?_
    refine gl_v rfl (o_move rfl) ?_
    refine gl_v rfl (o_move rfl) ?_
    refine gl_v rfl (o_idxS rfl rfl (by first | assumption | omega)) ?_
    refine gl_v rfl (o_loadS rfl hxv) ?_
    refine gl_v rfl (o_eqlK rfl rfl) ?_
    refine gl_v rfl (o_move rfl) ?_
    refine gl_g rfl rfl (fun hc3 => ?_) (fun hc3 => ?_) rfl
    ·
     have hc3' := hc3
     first | replace hc3' := of_decide_eq_true hc3' | replace hc3' := lt_f hc3' | replace hc3' := le_f hc3' | replace hc3' := dec_f hc3' | replace hc3' := nlt_t hc3' | replace hc3' := nle_t hc3' | replace hc3' := ndec_t hc3' | replace hc3' := ndec_f hc3' | replace hc3' := nn_t hc3' | replace hc3' := nn_f hc3' | skip
     obtain ⟨⟨p, co⟩, rfl⟩ : ∃ q, x = some q := by cases x with | none => simp at * | some q => exact ⟨q, rfl⟩
     refine gl_v rfl (o_move rfl) ?_
     refine gl_gT rfl rfl hc3 ?_
     refine gl_v rfl (o_move rfl) ?_
     refine gl_gT rfl rfl hc3 ?_
     refine gl_v rfl (o_idxS rfl rfl (by first | assumption | omega)) ?_
     refine gl_gT rfl rfl hc3 ?_
     refine gl_v rfl (o_loadS rfl hxv) ?_
     refine gl_gT rfl rfl hc3 ?_
     refine gl_v rfl (o_nil rfl) ?_
     refine gl_gT rfl rfl hc3 ?_
     first | refine gl_v rfl (o_fldS rfl) ?_ | refine gl_v rfl (o_fld rfl) ?_
     refine gl_gT rfl rfl hc3 ?_
     refine gl_fo (l := xs.map (oK X (⟨b, n⟩ : CB))) (i := j) (A := opK X (⟨b, n⟩ : CB) p co) (by repeat (first | exact .head | apply Sel.tail)) (map_at' (f := oK X (⟨b, n⟩ : CB)) hx) ?_
     refine gl_c rfl (o_call rfl (Over_op X (⟨b, n⟩ : CB) p co (fun h => (hxy.1.run h).2.1)) (by repeat (first | exact .nil | (apply Part.cons; · (repeat (first | exact .head | apply Sel.tail)))))) ?_
     rintro _ R ⟨_, ⟨rfl, rfl⟩, rfl⟩
     try simp only [List.cons_append, List.nil_append]
     refine gl_imp (fs (l := xs.map (oK X (⟨b, n⟩ : CB))) (i := j) (A := oK X (⟨b, n⟩ : CB) (some (p, co))) (by repeat (first | exact .head | apply Sel.tail)) (by repeat (first | exact .head | apply Sel.tail)) (by simp [hS.lx, hj])) ?_
     rw [map_sameP (f := oK X (⟨b, n⟩ : CB)) hx]
     refine gl_v rfl (o_pickF hc3 rfl rfl) ?_
     refine gl_v rfl (o_assign rfl) ?_
     refine gl_nil ?_
     first
     | (obtain rfl : x = none := by cases x with | none => rfl | some q => simp at *)
     | skip
     exact fun act wo hsl st => ⟨some (p, co), y, hx, hy, hxy, hsl.keep (Keep.cons rfl (Keep.cons rfl (Keep.cons rfl (Keep.cons rfl (Keep.cons rfl (Keep.cons rfl (Keep.cons rfl (Keep.cons rfl (Keep.cons rfl (Keep.cons rfl (Keep.cons rfl (Keep.cons rfl (Keep.nil))))))))))))), st.imp (To.sat (by repeat (first | exact .nil | exact .done .refl | (apply To.cons; · (repeat (first | exact .head | apply Sel.tail))) | exact .done (by repeat (first | exact .refl | apply Drop.skip)))))⟩
    ·
     have hc3' := hc3
     first | replace hc3' := of_decide_eq_true hc3' | replace hc3' := lt_f hc3' | replace hc3' := le_f hc3' | replace hc3' := dec_f hc3' | replace hc3' := nlt_t hc3' | replace hc3' := nle_t hc3' | replace hc3' := ndec_t hc3' | replace hc3' := ndec_f hc3' | replace hc3' := nn_t hc3' | replace hc3' := nn_f hc3' | skip
     simp only [putO]
     refine gl_gF rfl rfl hc3 rfl ?_
     refine gl_gF rfl rfl hc3 rfl ?_
     refine gl_gF rfl rfl hc3 rfl ?_
     refine gl_gF rfl rfl hc3 rfl ?_
     refine gl_gF rfl rfl hc3 rfl ?_
     refine gl_gF rfl rfl hc3 rfl ?_
     refine gl_v rfl (o_pickT hc3 rfl rfl) ?_
     refine gl_v rfl (o_assign rfl) ?_
     refine gl_nil ?_
     first
     | (obtain rfl : x = none := by cases x with | none => rfl | some q => simp at *)
     | skip
     exact fun act wo hsl st => ⟨none, y, hx, hy, hxy, hsl.keep (Keep.cons rfl (Keep.cons rfl (Keep.cons rfl (Keep.cons rfl (Keep.cons rfl (Keep.cons rfl (Keep.cons rfl (Keep.cons rfl (Keep.cons rfl (Keep.cons rfl (Keep.cons rfl (Keep.cons rfl (Keep.nil))))))))))))), st.imp (To.sat (by repeat (first | exact .nil | exact .done .refl | (apply To.cons; · (repeat (first | exact .head | apply Sel.tail))) | exact .done (by repeat (first | exact .refl | apply Drop.skip)))))⟩
   ·
    rintro act wo ⟨x, y, hx, hy, hxy, hsl, st⟩
    refine g_of ?_ hsl st
    clear hsl st act wo
    refine g_seq ?_
    refine g_region ?_
    refine gl_v rfl (o_assign rfl) ?_
    refine gl_nil ?_
    refine ge_then ?_
    refine g_seq ?_
    refine g_seq ?_
    refine g_region ?_
    refine gl_v rfl (o_assign rfl) ?_
    refine gl_nil ?_
    refine ge_then ?_
    refine g_block ?_
    refine g_loop (ι := Nat) (fun k => k ≤ 5) (fun k => [(21, I64 k), (20, .bool (kBeats xs ys k)), (19, .bool (idleK x)), (18, I64 kd), (17, I64 j), (16, ptr b16 0), (15, I64 i), (14, .slice a80 5 c80), (13, .slice a79 5 c79), (12, ptr q 0), (10, ptr X.c 0), (9, ptr X.m 0), (7, ptr b34 0), (2, .slice a vs.length c)]) (fun _ => cel b16 72 [.int .u8 k0, .int .u8 t0, U64 id, I64 dl] :: envK X (⟨b, n⟩ : CB) L t w :: rclk b34 (⟨b, n⟩ : CB) w :: rmemA q L tr :: own (.slice a79 5 c79) 29 1 5 (xs.map oVK) :: own (.slice a80 5 c80) 76 12 5 (ys.flatMap kV) :: fam (xs.map (oK X (⟨b, n⟩ : CB))) :: fam (ys.map kA) :: A :: R) (fun k => 5 - k) 0 (Nat.zero_le _) (Keep.cons rfl (Keep.cons rfl (Keep.cons rfl (Keep.cons rfl (Keep.cons rfl (Keep.cons rfl (Keep.cons rfl (Keep.cons rfl (Keep.cons rfl (Keep.cons rfl (Keep.cons rfl (Keep.cons rfl (Keep.cons rfl (Keep.cons rfl (Keep.nil))))))))))))))) (To.sat (by repeat (first | exact .nil | exact .done .refl | (apply To.cons; · (repeat (first | exact .head | apply Sel.tail))) | exact .done (by repeat (first | exact .refl | apply Drop.skip))))) ?_
    rintro k hk
    replace hk : k ≤ 5 := hk
    refine g_seq ?_
    refine g_seq ?_
    refine g_region ?_
    refine gl_v rfl (o_move rfl) ?_
    refine gl_v rfl (o_lss rfl rfl) ?_
    refine gl_nil ?_
    refine ge_then ?_
    refine g_cond rfl (fun hc4 => ?_) (fun hc4 => ?_)
    ·
     first | replace hc4 := of_decide_eq_true hc4 | replace hc4 := lt_f hc4 | replace hc4 := le_f hc4 | replace hc4 := dec_f hc4 | replace hc4 := nlt_t hc4 | replace hc4 := nle_t hc4 | replace hc4 := ndec_t hc4 | replace hc4 := ndec_f hc4 | replace hc4 := nn_t hc4 | replace hc4 := nn_f hc4 | skip
     have hk5 : k < 5 := by omega
     refine g_skip ?_
     refine ge_then ?_
     refine g_seq ?_
     refine g_block ?_
     obtain ⟨x, y, hx, hy, hxy⟩ := hS.all k hk5
     have hxv : (xs.map oVK)[k * 1]? = some (oVK x) := by rw [Nat.mul_one]; exact map_at' hx
     have hat := kAt_of hx hy
     refine g_region ?_
     refine gl_v rfl (o_move rfl) ?_
     refine gl_v rfl (o_move rfl) ?_
     refine gl_g rfl rfl (fun hc5 => ?_) (fun hc5 => ?_) rfl
     ·
      have hc5' := hc5
      first | replace hc5' := of_decide_eq_true hc5' | replace hc5' := lt_f hc5' | replace hc5' := le_f hc5' | replace hc5' := dec_f hc5' | replace hc5' := nlt_t hc5' | replace hc5' := nle_t hc5' | replace hc5' := ndec_t hc5' | replace hc5' := ndec_f hc5' | replace hc5' := nn_t hc5' | replace hc5' := nn_f hc5' | skip
      refine gl_v rfl (o_move rfl) ?_
      refine gl_gT rfl rfl hc5 ?_
      refine gl_v rfl (o_move rfl) ?_
      refine gl_gT rfl rfl hc5 ?_
      refine gl_v rfl (o_idxS rfl rfl (by first | assumption | omega)) ?_
      refine gl_gT rfl rfl hc5 ?_
      refine gl_v rfl (o_loadS rfl hxv) ?_
      refine gl_gT rfl rfl hc5 ?_
      refine gl_v rfl (o_neqK rfl rfl) ?_
      refine gl_gT rfl rfl hc5 ?_
      refine gl_v rfl (o_move rfl) ?_
      refine gl_g rfl rfl (fun hc6 => ?_) (fun hc6 => ?_) rfl
      ·
       have hc6' := hc6
       first | replace hc6' := of_decide_eq_true hc6' | replace hc6' := lt_f hc6' | replace hc6' := le_f hc6' | replace hc6' := dec_f hc6' | replace hc6' := nlt_t hc6' | replace hc6' := nle_t hc6' | replace hc6' := ndec_t hc6' | replace hc6' := ndec_f hc6' | replace hc6' := nn_t hc6' | replace hc6' := nn_f hc6' | skip
       obtain ⟨⟨p, co⟩, rfl⟩ : ∃ q, x = some q := by cases x with | none => simp at * | some q => exact ⟨q, rfl⟩
       refine gl_v rfl (o_move rfl) ?_
       refine gl_gT rfl rfl hc6 ?_
       refine gl_v rfl (o_move rfl) ?_
       refine gl_gT rfl rfl hc6 ?_
       refine gl_v rfl (o_idxS rfl rfl (by first | assumption | omega)) ?_
       refine gl_gT rfl rfl hc6 ?_
       refine gl_v rfl (o_loadS rfl hxv) ?_
       refine gl_gT rfl rfl hc6 ?_
       refine gl_v rfl (o_nil rfl) ?_
       refine gl_gT rfl rfl hc6 ?_
       first | refine gl_v rfl (o_fldS rfl) ?_ | refine gl_v rfl (o_fld rfl) ?_
       refine gl_gT rfl rfl hc6 ?_
       refine gl_fo (l := xs.map (oK X (⟨b, n⟩ : CB))) (i := k) (A := opK X (⟨b, n⟩ : CB) p co) (by repeat (first | exact .head | apply Sel.tail)) (map_at' (f := oK X (⟨b, n⟩ : CB)) hx) ?_
       refine gl_c rfl (o_call rfl (Over_op X (⟨b, n⟩ : CB) p co (fun h => (hxy.1.run h).2.1)) (by repeat (first | exact .nil | (apply Part.cons; · (repeat (first | exact .head | apply Sel.tail)))))) ?_
       rintro _ R ⟨_, ⟨rfl, rfl⟩, rfl⟩
       try simp only [List.cons_append, List.nil_append]
       refine gl_imp (fs (l := xs.map (oK X (⟨b, n⟩ : CB))) (i := k) (A := oK X (⟨b, n⟩ : CB) (some (p, co))) (by repeat (first | exact .head | apply Sel.tail)) (by repeat (first | exact .head | apply Sel.tail)) (by simp [hS.lx]; omega)) ?_
       rw [map_sameP (f := oK X (⟨b, n⟩ : CB)) hx]
       refine gl_gT rfl rfl hc6 ?_
       refine gl_v rfl (o_not rfl) ?_
       refine gl_gT rfl rfl hc5 ?_
       refine gl_v rfl (o_pickT hc6 rfl rfl) ?_
       refine gl_gT rfl rfl hc5 ?_
       refine gl_v rfl (o_move rfl) ?_
       refine gl_g rfl rfl (fun hc7 => ?_) (fun hc7 => ?_) rfl
       ·
        have hc7' := hc7
        first | replace hc7' := of_decide_eq_true hc7' | replace hc7' := lt_f hc7' | replace hc7' := le_f hc7' | replace hc7' := dec_f hc7' | replace hc7' := nlt_t hc7' | replace hc7' := nle_t hc7' | replace hc7' := ndec_t hc7' | replace hc7' := ndec_f hc7' | replace hc7' := nn_t hc7' | replace hc7' := nn_f hc7' | skip
        refine gl_v rfl (o_move rfl) ?_
        refine gl_gT rfl rfl hc7 ?_
        refine gl_v rfl (o_move rfl) ?_
        refine gl_gT rfl rfl hc7 ?_
        refine gl_v rfl (o_idxS rfl rfl (by first | assumption | omega)) ?_
        refine gl_gT rfl rfl hc7 ?_
        first | refine gl_v rfl (o_fldS rfl) ?_ | refine gl_v rfl (o_fld rfl) ?_
        refine gl_gT rfl rfl hc7 ?_
        refine gl_v rfl (o_loadS rfl (show (ys.flatMap kV)[k * 12 + 0]? = some (I64 y.kind) from flat_at' kV 12 (fun _ => rfl) hy rfl (by decide))) ?_
        refine gl_gT rfl rfl hc7 ?_
        refine gl_v rfl (o_eql rfl rfl) ?_
        refine gl_gT rfl rfl hc5 ?_
        refine gl_v rfl (o_pickT hc7 rfl rfl) ?_
        refine gl_v rfl (o_pickF hc5 rfl rfl) ?_
        refine gl_v rfl (o_assign rfl) ?_
        refine gl_nil ?_
        refine ge_block ?_
        refine ge_then ?_
        refine g_region ?_
        refine gl_v rfl (o_move rfl) ?_
        refine gl_v rfl (o_addR _ (by first | exact wr_i64 (by omega) | rfl) rfl rfl) ?_
        refine gl_v rfl (o_assign rfl) ?_
        refine gl_nil ?_
        refine ge_round (k + 1) (show k + 1 ≤ 5 by omega) (show 5 - (k + 1) < 5 - k by omega) (Keep.cons rfl (Keep.cons (by show some (Value.bool _) = some (Value.bool _); congr 2; simp only [kBeats, hat]; simp_all [kRun, CO.over]) (Keep.cons rfl (Keep.cons rfl (Keep.cons rfl (Keep.cons rfl (Keep.cons rfl (Keep.cons rfl (Keep.cons rfl (Keep.cons rfl (Keep.cons rfl (Keep.cons rfl (Keep.cons rfl (Keep.cons rfl (Keep.nil))))))))))))))) (To.sat (by repeat (first | exact .nil | exact .done .refl | (apply To.cons; · (repeat (first | exact .head | apply Sel.tail))) | exact .done (by repeat (first | exact .refl | apply Drop.skip)))))
       ·
        have hc7' := hc7
        first | replace hc7' := of_decide_eq_true hc7' | replace hc7' := lt_f hc7' | replace hc7' := le_f hc7' | replace hc7' := dec_f hc7' | replace hc7' := nlt_t hc7' | replace hc7' := nle_t hc7' | replace hc7' := ndec_t hc7' | replace hc7' := ndec_f hc7' | replace hc7' := nn_t hc7' | replace hc7' := nn_f hc7' | skip
        simp only [putO]
        refine gl_gF rfl rfl hc7 rfl ?_
        refine gl_gF rfl rfl hc7 rfl ?_
        refine gl_gF rfl rfl hc7 rfl ?_
        refine gl_gF rfl rfl hc7 rfl ?_
        refine gl_gF rfl rfl hc7 rfl ?_
        refine gl_gT rfl rfl hc5 ?_
        refine gl_v rfl (o_pickF hc7 rfl rfl) ?_
        refine gl_v rfl (o_pickF hc5 rfl rfl) ?_
        refine gl_v rfl (o_assign rfl) ?_
        refine gl_nil ?_
        refine ge_block ?_
        refine ge_then ?_
        refine g_region ?_
        refine gl_v rfl (o_move rfl) ?_
        refine gl_v rfl (o_addR _ (by first | exact wr_i64 (by omega) | rfl) rfl rfl) ?_
        refine gl_v rfl (o_assign rfl) ?_
        refine gl_nil ?_
        refine ge_round (k + 1) (show k + 1 ≤ 5 by omega) (show 5 - (k + 1) < 5 - k by omega) (Keep.cons rfl (Keep.cons (by show some (Value.bool _) = some (Value.bool _); congr 2; simp only [kBeats, hat]; simp_all [kRun, CO.over]) (Keep.cons rfl (Keep.cons rfl (Keep.cons rfl (Keep.cons rfl (Keep.cons rfl (Keep.cons rfl (Keep.cons rfl (Keep.cons rfl (Keep.cons rfl (Keep.cons rfl (Keep.cons rfl (Keep.cons rfl (Keep.nil))))))))))))))) (To.sat (by repeat (first | exact .nil | exact .done .refl | (apply To.cons; · (repeat (first | exact .head | apply Sel.tail))) | exact .done (by repeat (first | exact .refl | apply Drop.skip)))))
      ·
       have hc6' := hc6
       first | replace hc6' := of_decide_eq_true hc6' | replace hc6' := lt_f hc6' | replace hc6' := le_f hc6' | replace hc6' := dec_f hc6' | replace hc6' := nlt_t hc6' | replace hc6' := nle_t hc6' | replace hc6' := ndec_t hc6' | replace hc6' := ndec_f hc6' | replace hc6' := nn_t hc6' | replace hc6' := nn_f hc6' | skip
       simp only [putO]
       refine gl_gF rfl rfl hc6 rfl ?_
       refine gl_gF rfl rfl hc6 rfl ?_
       refine gl_gF rfl rfl hc6 rfl ?_
       refine gl_gF rfl rfl hc6 rfl ?_
       refine gl_gF rfl rfl hc6 rfl ?_
       refine gl_gF rfl rfl hc6 rfl ?_
       refine gl_gF rfl rfl hc6 rfl ?_
       refine gl_gT rfl rfl hc5 ?_
       refine gl_v rfl (o_pickF hc6 rfl rfl) ?_
       refine gl_gT rfl rfl hc5 ?_
       refine gl_v rfl (o_move rfl) ?_
       refine gl_gF rfl rfl rfl rfl ?_
       refine gl_gF rfl rfl rfl rfl ?_
       refine gl_gF rfl rfl rfl rfl ?_
       refine gl_gF rfl rfl rfl rfl ?_
       refine gl_gF rfl rfl rfl rfl ?_
       refine gl_gF rfl rfl rfl rfl ?_
       refine gl_gT rfl rfl hc5 ?_
       refine gl_v rfl (o_pickF rfl rfl rfl) ?_
       refine gl_v rfl (o_pickF hc5 rfl rfl) ?_
       refine gl_v rfl (o_assign rfl) ?_
       refine gl_nil ?_
       refine ge_block ?_
       refine ge_then ?_
       refine g_region ?_
       refine gl_v rfl (o_move rfl) ?_
       refine gl_v rfl (o_addR _ (by first | exact wr_i64 (by omega) | rfl) rfl rfl) ?_
       refine gl_v rfl (o_assign rfl) ?_
       refine gl_nil ?_
       refine ge_round (k + 1) (show k + 1 ≤ 5 by omega) (show 5 - (k + 1) < 5 - k by omega) (Keep.cons rfl (Keep.cons (by show some (Value.bool _) = some (Value.bool _); congr 2; simp only [kBeats, hat]; simp_all [kRun, CO.over]) (Keep.cons rfl (Keep.cons rfl (Keep.cons rfl (Keep.cons rfl (Keep.cons rfl (Keep.cons rfl (Keep.cons rfl (Keep.cons rfl (Keep.cons rfl (Keep.cons rfl (Keep.cons rfl (Keep.cons rfl (Keep.nil))))))))))))))) (To.sat (by repeat (first | exact .nil | exact .done .refl | (apply To.cons; · (repeat (first | exact .head | apply Sel.tail))) | exact .done (by repeat (first | exact .refl | apply Drop.skip)))))
     ·
      have hc5' := hc5
      first | replace hc5' := of_decide_eq_true hc5' | replace hc5' := lt_f hc5' | replace hc5' := le_f hc5' | replace hc5' := dec_f hc5' | replace hc5' := nlt_t hc5' | replace hc5' := nle_t hc5' | replace hc5' := ndec_t hc5' | replace hc5' := ndec_f hc5' | replace hc5' := nn_t hc5' | replace hc5' := nn_f hc5' | skip
      simp only [putO]
      refine gl_gF rfl rfl hc5 rfl ?_
      refine gl_gF rfl rfl hc5 rfl ?_
      refine gl_gF rfl rfl hc5 rfl ?_
      refine gl_gF rfl rfl hc5 rfl ?_
      refine gl_gF rfl rfl hc5 rfl ?_
      refine gl_gU rfl rfl rfl ?_
      refine gl_gU rfl rfl rfl ?_
      refine gl_gU rfl rfl rfl ?_
      refine gl_gU rfl rfl rfl ?_
      refine gl_gU rfl rfl rfl ?_
      refine gl_gU rfl rfl rfl ?_
      refine gl_gU rfl rfl rfl ?_
      refine gl_gU rfl rfl rfl ?_
      refine gl_gF rfl rfl hc5 rfl ?_
      refine gl_gF rfl rfl hc5 rfl ?_
      refine gl_gU rfl rfl rfl ?_
      refine gl_gU rfl rfl rfl ?_
      refine gl_gU rfl rfl rfl ?_
      refine gl_gU rfl rfl rfl ?_
      refine gl_gU rfl rfl rfl ?_
      refine gl_gU rfl rfl rfl ?_
      refine gl_gF rfl rfl hc5 rfl ?_
      refine gl_v rfl (o_pickT hc5 rfl rfl) ?_
      refine gl_v rfl (o_assign rfl) ?_
      refine gl_nil ?_
      refine ge_block ?_
      refine ge_then ?_
      refine g_region ?_
      refine gl_v rfl (o_move rfl) ?_
      refine gl_v rfl (o_addR _ (by first | exact wr_i64 (by omega) | rfl) rfl rfl) ?_
      refine gl_v rfl (o_assign rfl) ?_
      refine gl_nil ?_
      refine ge_round (k + 1) (show k + 1 ≤ 5 by omega) (show 5 - (k + 1) < 5 - k by omega) (Keep.cons rfl (Keep.cons (by show some (Value.bool _) = some (Value.bool _); congr 2; simp only [kBeats, hat]; simp_all [kRun, CO.over]) (Keep.cons rfl (Keep.cons rfl (Keep.cons rfl (Keep.cons rfl (Keep.cons rfl (Keep.cons rfl (Keep.cons rfl (Keep.cons rfl (Keep.cons rfl (Keep.cons rfl (Keep.cons rfl (Keep.cons rfl (Keep.nil))))))))))))))) (To.sat (by repeat (first | exact .nil | exact .done .refl | (apply To.cons; · (repeat (first | exact .head | apply Sel.tail))) | exact .done (by repeat (first | exact .refl | apply Drop.skip)))))
    ·
     first | replace hc4 := of_decide_eq_true hc4 | replace hc4 := lt_f hc4 | replace hc4 := le_f hc4 | replace hc4 := dec_f hc4 | replace hc4 := nlt_t hc4 | replace hc4 := nle_t hc4 | replace hc4 := ndec_t hc4 | replace hc4 := ndec_f hc4 | replace hc4 := nn_t hc4 | replace hc4 := nn_f hc4 | skip
     have hk5 : k = 5 := by omega
     rw [hk5]
     refine g_exit ?_
     refine ge_then_exit ?_
     refine ge_then_exit ?_
     refine ge_block_exit ?_
     refine ge_then ?_
     refine g_cut (fun act wo => ∃ (L : List Int) (t tr : Int) (w : Wh) (xs : List (Option (Nat × CO))) (ys : List RK), RKS (⟨b, n⟩ : CB) (i + 1) L w xs ys ∧ 0 ≤ t ∧ t ≤ 1000 + (i : Int) + 1 ∧ HasSl Tryz.f7.ntmps [(17, I64 j), (15, I64 i), (14, .slice a80 5 c80), (13, .slice a79 5 c79), (12, ptr q 0), (10, ptr X.c 0), (9, ptr X.m 0), (7, ptr b34 0), (2, .slice a vs.length c)] act ∧ St W0 (envK X (⟨b, n⟩ : CB) L t w :: rclk b34 (⟨b, n⟩ : CB) w :: rmemA q L tr :: own (.slice a79 5 c79) 29 1 5 (xs.map oVK) :: own (.slice a80 5 c80) 76 12 5 (ys.flatMap kV) :: fam (xs.map (oK X (⟨b, n⟩ : CB))) :: fam (ys.map kA) :: A :: R) wo) ?_ ?_
     ·
      refine g_seq ?_
      refine g_region ?_
      refine gl_v rfl (o_move rfl) ?_
      refine gl_v rfl (o_geq rfl rfl) ?_
      refine gl_v rfl (o_move rfl) ?_
      refine gl_g rfl rfl (fun hc8 => ?_) (fun hc8 => ?_) rfl
      ·
       have hc8' := hc8
       first | replace hc8' := of_decide_eq_true hc8' | replace hc8' := lt_f hc8' | replace hc8' := le_f hc8' | replace hc8' := dec_f hc8' | replace hc8' := nlt_t hc8' | replace hc8' := nle_t hc8' | replace hc8' := ndec_t hc8' | replace hc8' := ndec_f hc8' | replace hc8' := nn_t hc8' | replace hc8' := nn_f hc8' | skip
       refine gl_v rfl (o_move rfl) ?_
       refine gl_gT rfl rfl hc8 ?_
       refine gl_v rfl (o_leq rfl rfl) ?_
       refine gl_v rfl (o_pickT hc8 rfl rfl) ?_
       refine gl_nil ?_
       refine ge_then ?_
       refine g_cond rfl (fun hc9 => ?_) (fun hc9 => ?_)
       ·
        first | replace hc9 := of_decide_eq_true hc9 | replace hc9 := lt_f hc9 | replace hc9 := le_f hc9 | replace hc9 := dec_f hc9 | replace hc9 := nlt_t hc9 | replace hc9 := nle_t hc9 | replace hc9 := ndec_t hc9 | replace hc9 := ndec_f hc9 | replace hc9 := nn_t hc9 | replace hc9 := nn_f hc9 | skip
        refine g_seq ?_
        refine g_seq ?_
        refine g_region ?_
        refine gl_v rfl (o_move rfl) ?_
        refine gl_v rfl (o_not rfl) ?_
        refine gl_v rfl (o_move rfl) ?_
        refine gl_g rfl rfl (fun hc10 => ?_) (fun hc10 => ?_) rfl
        ·
         have hc10' := hc10
         first | replace hc10' := of_decide_eq_true hc10' | replace hc10' := lt_f hc10' | replace hc10' := le_f hc10' | replace hc10' := dec_f hc10' | replace hc10' := nlt_t hc10' | replace hc10' := nle_t hc10' | replace hc10' := ndec_t hc10' | replace hc10' := ndec_f hc10' | replace hc10' := nn_t hc10' | replace hc10' := nn_f hc10' | skip
         refine gl_v rfl (o_move rfl) ?_
         refine gl_gT rfl rfl hc10 ?_
         refine gl_v rfl (o_eql rfl rfl) ?_
         refine gl_gT rfl rfl hc10 ?_
         refine gl_v rfl (o_move rfl) ?_
         refine gl_g rfl rfl (fun hc11 => ?_) (fun hc11 => ?_) rfl
         ·
          have hc11' := hc11
          first | replace hc11' := of_decide_eq_true hc11' | replace hc11' := lt_f hc11' | replace hc11' := le_f hc11' | replace hc11' := dec_f hc11' | replace hc11' := nlt_t hc11' | replace hc11' := nle_t hc11' | replace hc11' := ndec_t hc11' | replace hc11' := ndec_f hc11' | replace hc11' := nn_t hc11' | replace hc11' := nn_f hc11' | skip
          refine gl_v rfl (o_move rfl) ?_
          refine gl_gT rfl rfl hc10 ?_
          refine gl_v rfl (o_pickT hc11 rfl rfl) ?_
          refine gl_v rfl (o_pickF hc10 rfl rfl) ?_
          refine gl_nil ?_
          refine ge_then ?_
          refine g_cond rfl (fun hc12 => ?_) (fun hc12 => ?_)
          ·
           first | replace hc12 := of_decide_eq_true hc12 | replace hc12 := lt_f hc12 | replace hc12 := le_f hc12 | replace hc12 := dec_f hc12 | replace hc12 := nlt_t hc12 | replace hc12 := nle_t hc12 | replace hc12 := ndec_t hc12 | replace hc12 := ndec_f hc12 | replace hc12 := nn_t hc12 | replace hc12 := nn_f hc12 | skip
           refine g_exit ?_
           refine ge_then_exit ?_
           refine ge_then_exit ?_
           refine ge_block_exit ?_
           refine ge_then ?_
           refine g_region ?_
           refine gl_v rfl (o_move rfl) ?_
           refine gl_v rfl (o_addR _ (by first | exact wr_i64 (by omega) | rfl) rfl rfl) ?_
           refine gl_v rfl (o_assign rfl) ?_
           refine gl_nil ?_
           refine ge_round (i + 1, L, t, tr, w, xs, ys) ⟨hS.mono (by omega), by show i + 1 ≤ 400; omega, by show i + 1 ≤ vs.length; omega, ht0, by show t ≤ 1000 + ((i + 1 : Nat) : Int); omega⟩ (by show 400 - (i + 1) < 400 - i; omega) (Keep.cons rfl (Keep.cons rfl (Keep.cons rfl (Keep.cons rfl (Keep.cons rfl (Keep.cons rfl (Keep.cons rfl (Keep.cons rfl (Keep.nil))))))))) (To.sat (by repeat (first | exact .nil | exact .done .refl | (apply To.cons; · (repeat (first | exact .head | apply Sel.tail))) | exact .done (by repeat (first | exact .refl | apply Drop.skip)))))
          ·
           first | replace hc12 := of_decide_eq_true hc12 | replace hc12 := lt_f hc12 | replace hc12 := le_f hc12 | replace hc12 := dec_f hc12 | replace hc12 := nlt_t hc12 | replace hc12 := nle_t hc12 | replace hc12 := ndec_t hc12 | replace hc12 := ndec_f hc12 | replace hc12 := nn_t hc12 | replace hc12 := nn_f hc12 | skip
           refine g_skip ?_
           refine ge_then ?_
           refine g_seq ?_
           refine g_fo (l := xs.map (oK X (⟨b, n⟩ : CB))) (i := j) (A := oK X (⟨b, n⟩ : CB) x) (by repeat (first | exact .head | apply Sel.tail)) (map_at' (f := oK X (⟨b, n⟩ : CB)) hx) ?_
           refine g_fo (l := ys.map kA) (i := j) (A := kA y) (by repeat (first | exact .head | apply Sel.tail)) (map_at' (f := kA) hy) ?_
           have hxv : (xs.map oVK)[j * 1]? = some (oVK x) := by rw [Nat.mul_one]; exact map_at' hx
           refine g_region ?_
           refine gl_v rfl (o_move rfl) ?_
           refine gl_v rfl (o_move rfl) ?_
           refine gl_v rfl (o_move rfl) ?_
           refine gl_v rfl (o_move rfl) ?_
           first | refine gl_v rfl (o_fldS rfl) ?_ | refine gl_v rfl (o_fld rfl) ?_
           first | refine gl_v rfl (o_load rfl rfl) ?_ | refine gl_v rfl (o_loadS rfl rfl) ?_ | refine gl_v rfl (o_loadC rfl) ?_
           first | refine gl_v rfl (o_fldS rfl) ?_ | refine gl_v rfl (o_fld rfl) ?_
           first | refine gl_v rfl (o_load rfl rfl) ?_ | refine gl_v rfl (o_loadS rfl rfl) ?_ | refine gl_v rfl (o_loadC rfl) ?_
           refine gl_c rfl (o_call rfl (kbegun_spec X (⟨b, n⟩ : CB) h64 L t w hS.ws.wi.now kd id dl (by omega) hr3.1) (by repeat (first | exact .nil | (apply Part.cons; · (repeat (first | exact .head | apply Sel.tail)))))) ?_
           rintro _ R ⟨_, ⟨p2, rfl, rfl⟩, rfl⟩
           try simp only [List.cons_append, List.nil_append]
           refine gl_v rfl (o_idxS rfl rfl (by first | assumption | omega)) ?_
           refine gl_u (o_storeS rfl rfl rfl (by simp [hS.lx]; omega)) ?_
           rw [Nat.mul_one]
           refine gl_nil ?_
           refine ge_then ?_
           refine g_seq ?_
           refine g_region ?_
           refine gl_v rfl (o_move rfl) ?_
           refine gl_v rfl (o_move rfl) ?_
           refine gl_v rfl (o_move rfl) ?_
           first | refine gl_v rfl (o_fldS rfl) ?_ | refine gl_v rfl (o_fld rfl) ?_
           first | refine gl_v rfl (o_load rfl rfl) ?_ | refine gl_v rfl (o_loadS rfl rfl) ?_ | refine gl_v rfl (o_loadC rfl) ?_
           first | refine gl_v rfl (o_fldS rfl) ?_ | refine gl_v rfl (o_fld rfl) ?_
           first | refine gl_v rfl (o_load rfl rfl) ?_ | refine gl_v rfl (o_loadS rfl rfl) ?_ | refine gl_v rfl (o_loadC rfl) ?_
           refine gl_c rfl (o_call rfl (rbegin_spec (⟨b, n⟩ : CB) h1 w kd id dl (by omega) hr3) (by repeat (first | exact .nil | (apply Part.cons; · (repeat (first | exact .head | apply Sel.tail)))))) ?_
           rintro _ R ⟨_, ⟨y2, rfl, rfl, hyk, hyl, hyr⟩, rfl⟩
           try simp only [List.cons_append, List.nil_append]
           refine gl_v rfl (o_idxS rfl rfl (by first | assumption | omega)) ?_
           refine gl_u (o_storeSA (vs := kV y2) rfl rfl rfl rfl (by rw [flat_length kV 12 (fun _ => rfl), hS.ly]; show j * 12 + 12 ≤ 60; omega) (show 0 < 12 by decide)) ?_
           rw [splice_flat kV 12 (fun _ => rfl) y2 ys j (by rw [hS.ly]; exact hj)]
           refine gl_nil ?_
           skip
           refine ge_then ?_
           refine g_seq ?_
           refine g_region ?_
           refine gl_v rfl (o_move rfl) ?_
           refine gl_v rfl (o_move rfl) ?_
           refine gl_v rfl (o_idxS rfl rfl (by first | assumption | omega)) ?_
           refine gl_v rfl (o_loadS rfl (by rw [Nat.mul_one]; simp [hS.lx, hj]; rfl)) ?_
           refine gl_v rfl (o_is (c := false) rfl (o_eqlPn rfl rfl)) ?_
           refine gl_nil ?_
           refine ge_imp (fs (i := j) (l := ys.map kA) (A := kA y2) (by repeat (first | exact .head | apply Sel.tail)) (by repeat (first | exact .head | apply Sel.tail)) (by simp [hS.ly, hj])) ?_
           refine ge_imp (fs (i := j) (l := xs.map (oK X (⟨b, n⟩ : CB))) (A := oK X (⟨b, n⟩ : CB) (some (p2, beginC (⟨b, n⟩ : CB) w kd id dl))) (by repeat (first | exact .head | apply Sel.tail)) (by repeat (first | exact .head | apply Sel.tail)) (by simp [hS.lx, hj])) ?_
           have hS' := hS.begin hi4 (j := j) (p := p2) hj (kind := (kd : Int)) (id := id) (d := dl) hr3.1 (by intro h3; first | omega | simp_all | (exfalso; omega)) (y' := y2) hyk hyl hyr
           refine ge_then ?_
           refine g_cond_false rfl ?_
           refine g_skip ?_
           exact fun act wo hsl st => ⟨L, t, tr, w, _, _, hS', ht0, by omega, hsl.keep (Keep.cons rfl (Keep.cons rfl (Keep.cons rfl (Keep.cons rfl (Keep.cons rfl (Keep.cons rfl (Keep.cons rfl (Keep.cons rfl (Keep.cons rfl (Keep.nil)))))))))), st.imp (by simp only [List.map_set]; exact (To.sat (by repeat (first | exact .nil | exact .done .refl | (apply To.cons; · (repeat (first | exact .head | apply Sel.tail))) | exact .done (by repeat (first | exact .refl | apply Drop.skip))))))⟩
         ·
          have hc11' := hc11
          first | replace hc11' := of_decide_eq_true hc11' | replace hc11' := lt_f hc11' | replace hc11' := le_f hc11' | replace hc11' := dec_f hc11' | replace hc11' := nlt_t hc11' | replace hc11' := nle_t hc11' | replace hc11' := ndec_t hc11' | replace hc11' := ndec_f hc11' | replace hc11' := nn_t hc11' | replace hc11' := nn_f hc11' | skip
          simp only [putO]
          refine gl_gT rfl rfl hc10 ?_
          refine gl_v rfl (o_pickF hc11 rfl rfl) ?_
          refine gl_v rfl (o_pickF hc10 rfl rfl) ?_
          refine gl_nil ?_
          refine ge_then ?_
          refine g_cond_false rfl ?_
          refine g_skip ?_
          refine ge_then ?_
          refine g_seq ?_
          refine g_fo (l := xs.map (oK X (⟨b, n⟩ : CB))) (i := j) (A := oK X (⟨b, n⟩ : CB) x) (by repeat (first | exact .head | apply Sel.tail)) (map_at' (f := oK X (⟨b, n⟩ : CB)) hx) ?_
          refine g_fo (l := ys.map kA) (i := j) (A := kA y) (by repeat (first | exact .head | apply Sel.tail)) (map_at' (f := kA) hy) ?_
          have hxv : (xs.map oVK)[j * 1]? = some (oVK x) := by rw [Nat.mul_one]; exact map_at' hx
          refine g_region ?_
          refine gl_v rfl (o_move rfl) ?_
          refine gl_v rfl (o_move rfl) ?_
          refine gl_v rfl (o_move rfl) ?_
          refine gl_v rfl (o_move rfl) ?_
          first | refine gl_v rfl (o_fldS rfl) ?_ | refine gl_v rfl (o_fld rfl) ?_
          first | refine gl_v rfl (o_load rfl rfl) ?_ | refine gl_v rfl (o_loadS rfl rfl) ?_ | refine gl_v rfl (o_loadC rfl) ?_
          first | refine gl_v rfl (o_fldS rfl) ?_ | refine gl_v rfl (o_fld rfl) ?_
          first | refine gl_v rfl (o_load rfl rfl) ?_ | refine gl_v rfl (o_loadS rfl rfl) ?_ | refine gl_v rfl (o_loadC rfl) ?_
          refine gl_c rfl (o_call rfl (kbegun_spec X (⟨b, n⟩ : CB) h64 L t w hS.ws.wi.now kd id dl (by omega) hr3.1) (by repeat (first | exact .nil | (apply Part.cons; · (repeat (first | exact .head | apply Sel.tail)))))) ?_
          rintro _ R ⟨_, ⟨p2, rfl, rfl⟩, rfl⟩
          try simp only [List.cons_append, List.nil_append]
          refine gl_v rfl (o_idxS rfl rfl (by first | assumption | omega)) ?_
          refine gl_u (o_storeS rfl rfl rfl (by simp [hS.lx]; omega)) ?_
          rw [Nat.mul_one]
          refine gl_nil ?_
          refine ge_then ?_
          refine g_seq ?_
          refine g_region ?_
          refine gl_v rfl (o_move rfl) ?_
          refine gl_v rfl (o_move rfl) ?_
          refine gl_v rfl (o_move rfl) ?_
          first | refine gl_v rfl (o_fldS rfl) ?_ | refine gl_v rfl (o_fld rfl) ?_
          first | refine gl_v rfl (o_load rfl rfl) ?_ | refine gl_v rfl (o_loadS rfl rfl) ?_ | refine gl_v rfl (o_loadC rfl) ?_
          first | refine gl_v rfl (o_fldS rfl) ?_ | refine gl_v rfl (o_fld rfl) ?_
          first | refine gl_v rfl (o_load rfl rfl) ?_ | refine gl_v rfl (o_loadS rfl rfl) ?_ | refine gl_v rfl (o_loadC rfl) ?_
          refine gl_c rfl (o_call rfl (rbegin_spec (⟨b, n⟩ : CB) h1 w kd id dl (by omega) hr3) (by repeat (first | exact .nil | (apply Part.cons; · (repeat (first | exact .head | apply Sel.tail)))))) ?_
          rintro _ R ⟨_, ⟨y2, rfl, rfl, hyk, hyl, hyr⟩, rfl⟩
          try simp only [List.cons_append, List.nil_append]
          refine gl_v rfl (o_idxS rfl rfl (by first | assumption | omega)) ?_
          refine gl_u (o_storeSA (vs := kV y2) rfl rfl rfl rfl (by rw [flat_length kV 12 (fun _ => rfl), hS.ly]; show j * 12 + 12 ≤ 60; omega) (show 0 < 12 by decide)) ?_
          rw [splice_flat kV 12 (fun _ => rfl) y2 ys j (by rw [hS.ly]; exact hj)]
          refine gl_nil ?_
          skip
          refine ge_then ?_
          refine g_seq ?_
          refine g_region ?_
          refine gl_v rfl (o_move rfl) ?_
          refine gl_v rfl (o_move rfl) ?_
          refine gl_v rfl (o_idxS rfl rfl (by first | assumption | omega)) ?_
          refine gl_v rfl (o_loadS rfl (by rw [Nat.mul_one]; simp [hS.lx, hj]; rfl)) ?_
          refine gl_v rfl (o_is (c := false) rfl (o_eqlPn rfl rfl)) ?_
          refine gl_nil ?_
          refine ge_imp (fs (i := j) (l := ys.map kA) (A := kA y2) (by repeat (first | exact .head | apply Sel.tail)) (by repeat (first | exact .head | apply Sel.tail)) (by simp [hS.ly, hj])) ?_
          refine ge_imp (fs (i := j) (l := xs.map (oK X (⟨b, n⟩ : CB))) (A := oK X (⟨b, n⟩ : CB) (some (p2, beginC (⟨b, n⟩ : CB) w kd id dl))) (by repeat (first | exact .head | apply Sel.tail)) (by repeat (first | exact .head | apply Sel.tail)) (by simp [hS.lx, hj])) ?_
          have hS' := hS.begin hi4 (j := j) (p := p2) hj (kind := (kd : Int)) (id := id) (d := dl) hr3.1 (by intro h3; first | omega | simp_all | (exfalso; omega)) (y' := y2) hyk hyl hyr
          refine ge_then ?_
          refine g_cond_false rfl ?_
          refine g_skip ?_
          exact fun act wo hsl st => ⟨L, t, tr, w, _, _, hS', ht0, by omega, hsl.keep (Keep.cons rfl (Keep.cons rfl (Keep.cons rfl (Keep.cons rfl (Keep.cons rfl (Keep.cons rfl (Keep.cons rfl (Keep.cons rfl (Keep.cons rfl (Keep.nil)))))))))), st.imp (by simp only [List.map_set]; exact (To.sat (by repeat (first | exact .nil | exact .done .refl | (apply To.cons; · (repeat (first | exact .head | apply Sel.tail))) | exact .done (by repeat (first | exact .refl | apply Drop.skip))))))⟩
        ·
         have hc10' := hc10
         first | replace hc10' := of_decide_eq_true hc10' | replace hc10' := lt_f hc10' | replace hc10' := le_f hc10' | replace hc10' := dec_f hc10' | replace hc10' := nlt_t hc10' | replace hc10' := nle_t hc10' | replace hc10' := ndec_t hc10' | replace hc10' := ndec_f hc10' | replace hc10' := nn_t hc10' | replace hc10' := nn_f hc10' | skip
         simp only [putO]
         refine gl_gF rfl rfl hc10 rfl ?_
         refine gl_gF rfl rfl hc10 rfl ?_
         refine gl_gU rfl rfl rfl ?_
         refine gl_gF rfl rfl hc10 rfl ?_
         refine gl_v rfl (o_pickT hc10 rfl rfl) ?_
         refine gl_nil ?_
         refine ge_then ?_
         refine g_cond_true rfl ?_
         refine g_exit ?_
         refine ge_then_exit ?_
         refine ge_then_exit ?_
         refine ge_block_exit ?_
         refine ge_then ?_
         refine g_region ?_
         refine gl_v rfl (o_move rfl) ?_
         refine gl_v rfl (o_addR _ (by first | exact wr_i64 (by omega) | rfl) rfl rfl) ?_
         refine gl_v rfl (o_assign rfl) ?_
         refine gl_nil ?_
         refine ge_round (i + 1, L, t, tr, w, xs, ys) ⟨hS.mono (by omega), by show i + 1 ≤ 400; omega, by show i + 1 ≤ vs.length; omega, ht0, by show t ≤ 1000 + ((i + 1 : Nat) : Int); omega⟩ (by show 400 - (i + 1) < 400 - i; omega) (Keep.cons rfl (Keep.cons rfl (Keep.cons rfl (Keep.cons rfl (Keep.cons rfl (Keep.cons rfl (Keep.cons rfl (Keep.cons rfl (Keep.nil))))))))) (To.sat (by repeat (first | exact .nil | exact .done .refl | (apply To.cons; · (repeat (first | exact .head | apply Sel.tail))) | exact .done (by repeat (first | exact .refl | apply Drop.skip)))))
       ·
        first | replace hc9 := of_decide_eq_true hc9 | replace hc9 := lt_f hc9 | replace hc9 := le_f hc9 | replace hc9 := dec_f hc9 | replace hc9 := nlt_t hc9 | replace hc9 := nle_t hc9 | replace hc9 := ndec_t hc9 | replace hc9 := ndec_f hc9 | replace hc9 := nn_t hc9 | replace hc9 := nn_f hc9 | skip
        refine g_seq ?_
        have hxv : (xs.map oVK)[j * 1]? = some (oVK x) := by rw [Nat.mul_one]; exact map_at' hx
        refine g_region ?_
        refine gl_v rfl (o_move rfl) ?_
        refine gl_v rfl (o_move rfl) ?_
        refine gl_v rfl (o_idxS rfl rfl (by first | assumption | omega)) ?_
        refine gl_v rfl (o_loadS rfl hxv) ?_
        refine gl_v rfl (o_neqK rfl rfl) ?_
        refine gl_nil ?_
        refine ge_then ?_
        refine g_cond rfl (fun hc13 => ?_) (fun hc13 => ?_)
        ·
         first | replace hc13 := of_decide_eq_true hc13 | replace hc13 := lt_f hc13 | replace hc13 := le_f hc13 | replace hc13 := dec_f hc13 | replace hc13 := nlt_t hc13 | replace hc13 := nle_t hc13 | replace hc13 := ndec_t hc13 | replace hc13 := ndec_f hc13 | replace hc13 := nn_t hc13 | replace hc13 := nn_f hc13 | skip
         obtain ⟨⟨p, co⟩, rfl⟩ : ∃ q, x = some q := by cases x with | none => cases hc13 | some q => exact ⟨q, rfl⟩
         have hco' := (goC_in (B := (⟨b, n⟩ : CB)) (L := L) (w := w) (c := co) hS.li (k := 1000 - (i + 1)) (hS.ws.le (by omega)) hxy.1).2.2
         refine g_seq ?_
         refine g_region ?_
         refine gl_v rfl (o_move rfl) ?_
         refine gl_c rfl (o_call rfl (KTouched X (⟨b, n⟩ : CB) L t w) (by repeat (first | exact .nil | (apply Part.cons; · (repeat (first | exact .head | apply Sel.tail)))))) ?_
         rintro _ R ⟨_, ⟨rfl, rfl⟩, rfl⟩
         try simp only [List.cons_append, List.nil_append]
         refine gl_v rfl (o_assign rfl) ?_
         refine gl_nil ?_
         refine ge_then ?_
         refine g_seq ?_
         refine g_fo (l := xs.map (oK X (⟨b, n⟩ : CB))) (i := j) (A := opK X (⟨b, n⟩ : CB) p co) (by repeat (first | exact .head | apply Sel.tail)) (map_at' (f := oK X (⟨b, n⟩ : CB)) hx) ?_
         refine g_region ?_
         refine gl_v rfl (o_move rfl) ?_
         refine gl_v rfl (o_move rfl) ?_
         refine gl_v rfl (o_idxS rfl rfl (by first | assumption | omega)) ?_
         refine gl_v rfl (o_loadS rfl hxv) ?_
         refine gl_v rfl (o_nil rfl) ?_
         first | refine gl_v rfl (o_fldS rfl) ?_ | refine gl_v rfl (o_fld rfl) ?_
         refine gl_c rfl (o_call rfl (kstep_spec X (⟨b, n⟩ : CB) p L t w co hS.ci hS.li hS.ws.wi hxy.1) (by repeat (first | exact .nil | (apply Part.cons; · (repeat (first | exact .head | apply Sel.tail)))))) ?_
         rintro _ R ⟨_, ⟨rfl, rfl⟩, rfl⟩
         try simp only [List.cons_append, List.nil_append]
         refine gl_v rfl (o_assign rfl) ?_
         refine gl_nil ?_
         refine ge_then ?_
         refine g_seq ?_
         refine g_seq ?_
         refine g_region ?_
         refine gl_v rfl (o_move rfl) ?_
         refine gl_v rfl (o_move rfl) ?_
         refine gl_c rfl (o_call rfl (KTouched X (⟨b, n⟩ : CB) (goC (⟨b, n⟩ : CB) L w co).1 (if co.over then t else tup t) (goC (⟨b, n⟩ : CB) L w co).2.1) (by repeat (first | exact .nil | (apply Part.cons; · (repeat (first | exact .head | apply Sel.tail)))))) ?_
         rintro _ R ⟨_, ⟨rfl, rfl⟩, rfl⟩
         try simp only [List.cons_append, List.nil_append]
         refine gl_v rfl (o_move rfl) ?_
         refine gl_v rfl (o_eql rfl rfl) ?_
         refine gl_v rfl (o_is (c := false) (ktouched_same ht0 (by omega)) (o_neqb rfl rfl)) ?_
         refine gl_v rfl (o_move rfl) ?_
         refine gl_gT rfl rfl rfl ?_
         refine gl_v rfl (o_move rfl) ?_
         refine gl_gT rfl rfl rfl ?_
         refine gl_c rfl (o_call rfl (KTouched X (⟨b, n⟩ : CB) (goC (⟨b, n⟩ : CB) L w co).1 (if co.over then t else tup t) (goC (⟨b, n⟩ : CB) L w co).2.1) (by repeat (first | exact .nil | (apply Part.cons; · (repeat (first | exact .head | apply Sel.tail)))))) ?_
         rintro _ R ⟨_, ⟨rfl, rfl⟩, rfl⟩
         try simp only [List.cons_append, List.nil_append]
         refine gl_gT rfl rfl rfl ?_
         refine gl_v rfl (o_move rfl) ?_
         refine gl_gT rfl rfl rfl ?_
         refine gl_v rfl (o_addR (t + 1) (wr_i64 (by omega)) rfl rfl) ?_
         refine gl_gT rfl rfl rfl ?_
         refine gl_v rfl (o_is (c := false) (ktouched_up ht0 (by omega)) (o_gtr rfl rfl)) ?_
         refine gl_v rfl (o_pickF rfl rfl rfl) ?_
         refine gl_v rfl (o_move rfl) ?_
         refine gl_gT rfl rfl rfl ?_
         refine gl_v rfl (o_move rfl) ?_
         refine gl_gT rfl rfl rfl ?_
         refine gl_v rfl (o_move rfl) ?_
         refine gl_gT rfl rfl rfl ?_
         refine gl_v rfl (o_move rfl) ?_
         refine gl_gT rfl rfl rfl ?_
         refine gl_v rfl (o_idxS rfl rfl (by first | assumption | omega)) ?_
         refine gl_gT rfl rfl rfl ?_
         refine gl_v rfl (o_loadS rfl hxv) ?_
         refine gl_gT rfl rfl rfl ?_
         refine gl_v rfl (o_nil rfl) ?_
         refine gl_gT rfl rfl rfl ?_
         first | refine gl_v rfl (o_fldS rfl) ?_ | refine gl_v rfl (o_fld rfl) ?_
         refine gl_gT rfl rfl rfl ?_
         refine gl_c rfl (o_call rfl (Over_op X (⟨b, n⟩ : CB) p (goC (⟨b, n⟩ : CB) L w co).2.2 (fun h => (hco'.run h).2.1)) (by repeat (first | exact .nil | (apply Part.cons; · (repeat (first | exact .head | apply Sel.tail)))))) ?_
         rintro _ R ⟨_, ⟨rfl, rfl⟩, rfl⟩
         try simp only [List.cons_append, List.nil_append]
         refine gl_gT rfl rfl rfl ?_
         refine gl_v rfl (o_is (c := false) (by simp) (o_neqb rfl rfl)) ?_
         refine gl_v rfl (o_pickF rfl rfl rfl) ?_
         refine gl_nil ?_
         refine ge_then ?_
         refine g_cond_false rfl ?_
         refine g_skip ?_
         refine ge_then ?_
         refine g_fo (l := ys.map kA) (i := j) (A := kA y) (by repeat (first | exact .head | apply Sel.tail)) (map_at' (f := kA) hy) ?_
         refine g_region ?_
         refine gl_v rfl (o_move rfl) ?_
         refine gl_v rfl (o_move rfl) ?_
         refine gl_v rfl (o_move rfl) ?_
         refine gl_v rfl (o_move rfl) ?_
         refine gl_v rfl (o_move rfl) ?_
         refine gl_v rfl (o_move rfl) ?_
         refine gl_v rfl (o_idxS rfl rfl (by first | assumption | omega)) ?_
         refine gl_v rfl (o_loadSA rfl (flat_take kV 12 (fun _ => rfl) hy) rfl) ?_
         refine gl_c rfl (o_call rfl (kref_spec q b34 (⟨b, n⟩ : CB) L tr hS.ci hS.li w hS.ws.wi co hxy.1 y hxy.2.1 (by have := hxy.2.2.1; omega)) (by repeat (first | exact .nil | (apply Part.cons; · (repeat (first | exact .head | apply Sel.tail)))))) ?_
         rintro _ R ⟨_, ⟨y', tr', rfl, hyk, hyl, hyr, rfl⟩, rfl⟩
         try simp only [List.cons_append, List.nil_append]
         refine gl_v rfl (o_idxS rfl rfl (by first | assumption | omega)) ?_
         refine gl_u (o_storeSA (vs := kV y') rfl rfl rfl rfl (by rw [flat_length kV 12 (fun _ => rfl), hS.ly]; show j * 12 + 12 ≤ 60; omega) (show 0 < 12 by decide)) ?_
         rw [splice_flat kV 12 (fun _ => rfl) y' ys j (by rw [hS.ly]; exact hj)]
         refine gl_nil ?_
         refine ge_imp (fs (i := j) (l := ys.map kA) (A := kA y') (by repeat (first | exact .head | apply Sel.tail)) (by repeat (first | exact .head | apply Sel.tail)) (by simp [hS.ly, hj])) ?_
         refine ge_imp (fs (i := j) (l := xs.map (oK X (⟨b, n⟩ : CB))) (A := oK X (⟨b, n⟩ : CB) (some (p, (goC (⟨b, n⟩ : CB) L w co).2.2))) (by repeat (first | exact .head | apply Sel.tail)) (by repeat (first | exact .head | apply Sel.tail)) (by simp [hS.lx, hj])) ?_
         have hS' := hS.step hi4 (j := j) (p := p) hj hx hy hxy.2.1 hxy.1 hxy.2.2.2 (y' := y') hyk (by have := hxy.2.2.1; omega) hyr
         have hti := ktouched_in (v := co.over) ht0 (by omega : t ≤ 100000)
         have hov : (xs.set j (some (p, (goC (⟨b, n⟩ : CB) L w co).2.2))).map oVK = xs.map oVK := by rw [List.map_set]; exact map_sameP (f := oVK) (y := some (p, co)) hx
         exact fun act wo hsl st => ⟨(goC (⟨b, n⟩ : CB) L w co).1, _, tr', (goC (⟨b, n⟩ : CB) L w co).2.1, _, _, hS', hti.1, by omega, hsl.keep (Keep.cons rfl (Keep.cons rfl (Keep.cons rfl (Keep.cons rfl (Keep.cons rfl (Keep.cons rfl (Keep.cons rfl (Keep.cons rfl (Keep.cons rfl (Keep.nil)))))))))), st.imp (by rw [hov]; simp only [List.map_set]; exact (To.sat (by repeat (first | exact .nil | exact .done .refl | (apply To.cons; · (repeat (first | exact .head | apply Sel.tail))) | exact .done (by repeat (first | exact .refl | apply Drop.skip))))))⟩
        ·
         first | replace hc13 := of_decide_eq_true hc13 | replace hc13 := lt_f hc13 | replace hc13 := le_f hc13 | replace hc13 := dec_f hc13 | replace hc13 := nlt_t hc13 | replace hc13 := nle_t hc13 | replace hc13 := ndec_t hc13 | replace hc13 := ndec_f hc13 | replace hc13 := nn_t hc13 | replace hc13 := nn_f hc13 | skip
         refine g_skip ?_
         exact fun act wo hsl st => ⟨L, t, tr, w, xs, ys, hS.mono (by omega), ht0, by omega, hsl.keep (Keep.cons rfl (Keep.cons rfl (Keep.cons rfl (Keep.cons rfl (Keep.cons rfl (Keep.cons rfl (Keep.cons rfl (Keep.cons rfl (Keep.cons rfl (Keep.nil)))))))))), st.imp (To.sat (by repeat (first | exact .nil | exact .done .refl | (apply To.cons; · (repeat (first | exact .head | apply Sel.tail))) | exact .done (by repeat (first | exact .refl | apply Drop.skip)))))⟩
      ·
       have hc8' := hc8
       first | replace hc8' := of_decide_eq_true hc8' | replace hc8' := lt_f hc8' | replace hc8' := le_f hc8' | replace hc8' := dec_f hc8' | replace hc8' := nlt_t hc8' | replace hc8' := nle_t hc8' | replace hc8' := ndec_t hc8' | replace hc8' := ndec_f hc8' | replace hc8' := nn_t hc8' | replace hc8' := nn_f hc8' | skip
       simp only [putO]
       refine gl_gF rfl rfl hc8 rfl ?_
       refine gl_v rfl (o_pickF hc8 rfl rfl) ?_
       refine gl_nil ?_
       refine ge_then ?_
       refine g_cond_false rfl ?_
       refine g_seq ?_
       have hxv : (xs.map oVK)[j * 1]? = some (oVK x) := by rw [Nat.mul_one]; exact map_at' hx
       refine g_region ?_
       refine gl_v rfl (o_move rfl) ?_
       refine gl_v rfl (o_move rfl) ?_
       refine gl_v rfl (o_idxS rfl rfl (by first | assumption | omega)) ?_
       refine gl_v rfl (o_loadS rfl hxv) ?_
       refine gl_v rfl (o_neqK rfl rfl) ?_
       refine gl_nil ?_
       refine ge_then ?_
       refine g_cond rfl (fun hc14 => ?_) (fun hc14 => ?_)
       ·
        first | replace hc14 := of_decide_eq_true hc14 | replace hc14 := lt_f hc14 | replace hc14 := le_f hc14 | replace hc14 := dec_f hc14 | replace hc14 := nlt_t hc14 | replace hc14 := nle_t hc14 | replace hc14 := ndec_t hc14 | replace hc14 := ndec_f hc14 | replace hc14 := nn_t hc14 | replace hc14 := nn_f hc14 | skip
        obtain ⟨⟨p, co⟩, rfl⟩ : ∃ q, x = some q := by cases x with | none => cases hc14 | some q => exact ⟨q, rfl⟩
        have hco' := (goC_in (B := (⟨b, n⟩ : CB)) (L := L) (w := w) (c := co) hS.li (k := 1000 - (i + 1)) (hS.ws.le (by omega)) hxy.1).2.2
        refine g_seq ?_
        refine g_region ?_
        refine gl_v rfl (o_move rfl) ?_
        refine gl_c rfl (o_call rfl (KTouched X (⟨b, n⟩ : CB) L t w) (by repeat (first | exact .nil | (apply Part.cons; · (repeat (first | exact .head | apply Sel.tail)))))) ?_
        rintro _ R ⟨_, ⟨rfl, rfl⟩, rfl⟩
        try simp only [List.cons_append, List.nil_append]
        refine gl_v rfl (o_assign rfl) ?_
        refine gl_nil ?_
        refine ge_then ?_
        refine g_seq ?_
        refine g_fo (l := xs.map (oK X (⟨b, n⟩ : CB))) (i := j) (A := opK X (⟨b, n⟩ : CB) p co) (by repeat (first | exact .head | apply Sel.tail)) (map_at' (f := oK X (⟨b, n⟩ : CB)) hx) ?_
        refine g_region ?_
        refine gl_v rfl (o_move rfl) ?_
        refine gl_v rfl (o_move rfl) ?_
        refine gl_v rfl (o_idxS rfl rfl (by first | assumption | omega)) ?_
        refine gl_v rfl (o_loadS rfl hxv) ?_
        refine gl_v rfl (o_nil rfl) ?_
        first | refine gl_v rfl (o_fldS rfl) ?_ | refine gl_v rfl (o_fld rfl) ?_
        refine gl_c rfl (o_call rfl (kstep_spec X (⟨b, n⟩ : CB) p L t w co hS.ci hS.li hS.ws.wi hxy.1) (by repeat (first | exact .nil | (apply Part.cons; · (repeat (first | exact .head | apply Sel.tail)))))) ?_
        rintro _ R ⟨_, ⟨rfl, rfl⟩, rfl⟩
        try simp only [List.cons_append, List.nil_append]
        refine gl_v rfl (o_assign rfl) ?_
        refine gl_nil ?_
        refine ge_then ?_
        refine g_seq ?_
        refine g_seq ?_
        refine g_region ?_
        refine gl_v rfl (o_move rfl) ?_
        refine gl_v rfl (o_move rfl) ?_
        refine gl_c rfl (o_call rfl (KTouched X (⟨b, n⟩ : CB) (goC (⟨b, n⟩ : CB) L w co).1 (if co.over then t else tup t) (goC (⟨b, n⟩ : CB) L w co).2.1) (by repeat (first | exact .nil | (apply Part.cons; · (repeat (first | exact .head | apply Sel.tail)))))) ?_
        rintro _ R ⟨_, ⟨rfl, rfl⟩, rfl⟩
        try simp only [List.cons_append, List.nil_append]
        refine gl_v rfl (o_move rfl) ?_
        refine gl_v rfl (o_eql rfl rfl) ?_
        refine gl_v rfl (o_is (c := false) (ktouched_same ht0 (by omega)) (o_neqb rfl rfl)) ?_
        refine gl_v rfl (o_move rfl) ?_
        refine gl_gT rfl rfl rfl ?_
        refine gl_v rfl (o_move rfl) ?_
        refine gl_gT rfl rfl rfl ?_
        refine gl_c rfl (o_call rfl (KTouched X (⟨b, n⟩ : CB) (goC (⟨b, n⟩ : CB) L w co).1 (if co.over then t else tup t) (goC (⟨b, n⟩ : CB) L w co).2.1) (by repeat (first | exact .nil | (apply Part.cons; · (repeat (first | exact .head | apply Sel.tail)))))) ?_
        rintro _ R ⟨_, ⟨rfl, rfl⟩, rfl⟩
        try simp only [List.cons_append, List.nil_append]
        refine gl_gT rfl rfl rfl ?_
        refine gl_v rfl (o_move rfl) ?_
        refine gl_gT rfl rfl rfl ?_
        refine gl_v rfl (o_addR (t + 1) (wr_i64 (by omega)) rfl rfl) ?_
        refine gl_gT rfl rfl rfl ?_
        refine gl_v rfl (o_is (c := false) (ktouched_up ht0 (by omega)) (o_gtr rfl rfl)) ?_
        refine gl_v rfl (o_pickF rfl rfl rfl) ?_
        refine gl_v rfl (o_move rfl) ?_
        refine gl_gT rfl rfl rfl ?_
        refine gl_v rfl (o_move rfl) ?_
        refine gl_gT rfl rfl rfl ?_
        refine gl_v rfl (o_move rfl) ?_
        refine gl_gT rfl rfl rfl ?_
        refine gl_v rfl (o_move rfl) ?_
        refine gl_gT rfl rfl rfl ?_
        refine gl_v rfl (o_idxS rfl rfl (by first | assumption | omega)) ?_
        refine gl_gT rfl rfl rfl ?_
        refine gl_v rfl (o_loadS rfl hxv) ?_
        refine gl_gT rfl rfl rfl ?_
        refine gl_v rfl (o_nil rfl) ?_
        refine gl_gT rfl rfl rfl ?_
        first | refine gl_v rfl (o_fldS rfl) ?_ | refine gl_v rfl (o_fld rfl) ?_
        refine gl_gT rfl rfl rfl ?_
        refine gl_c rfl (o_call rfl (Over_op X (⟨b, n⟩ : CB) p (goC (⟨b, n⟩ : CB) L w co).2.2 (fun h => (hco'.run h).2.1)) (by repeat (first | exact .nil | (apply Part.cons; · (repeat (first | exact .head | apply Sel.tail)))))) ?_
        rintro _ R ⟨_, ⟨rfl, rfl⟩, rfl⟩
        try simp only [List.cons_append, List.nil_append]
        refine gl_gT rfl rfl rfl ?_
        refine gl_v rfl (o_is (c := false) (by simp) (o_neqb rfl rfl)) ?_
        refine gl_v rfl (o_pickF rfl rfl rfl) ?_
        refine gl_nil ?_
        refine ge_then ?_
        refine g_cond_false rfl ?_
        refine g_skip ?_
        refine ge_then ?_
        refine g_fo (l := ys.map kA) (i := j) (A := kA y) (by repeat (first | exact .head | apply Sel.tail)) (map_at' (f := kA) hy) ?_
        refine g_region ?_
        refine gl_v rfl (o_move rfl) ?_
        refine gl_v rfl (o_move rfl) ?_
        refine gl_v rfl (o_move rfl) ?_
        refine gl_v rfl (o_move rfl) ?_
        refine gl_v rfl (o_move rfl) ?_
        refine gl_v rfl (o_move rfl) ?_
        refine gl_v rfl (o_idxS rfl rfl (by first | assumption | omega)) ?_
        refine gl_v rfl (o_loadSA rfl (flat_take kV 12 (fun _ => rfl) hy) rfl) ?_
        refine gl_c rfl (o_call rfl (kref_spec q b34 (⟨b, n⟩ : CB) L tr hS.ci hS.li w hS.ws.wi co hxy.1 y hxy.2.1 (by have := hxy.2.2.1; omega)) (by repeat (first | exact .nil | (apply Part.cons; · (repeat (first | exact .head | apply Sel.tail)))))) ?_
        rintro _ R ⟨_, ⟨y', tr', rfl, hyk, hyl, hyr, rfl⟩, rfl⟩
        try simp only [List.cons_append, List.nil_append]
        refine gl_v rfl (o_idxS rfl rfl (by first | assumption | omega)) ?_
        refine gl_u (o_storeSA (vs := kV y') rfl rfl rfl rfl (by rw [flat_length kV 12 (fun _ => rfl), hS.ly]; show j * 12 + 12 ≤ 60; omega) (show 0 < 12 by decide)) ?_
        rw [splice_flat kV 12 (fun _ => rfl) y' ys j (by rw [hS.ly]; exact hj)]
        refine gl_nil ?_
        refine ge_imp (fs (i := j) (l := ys.map kA) (A := kA y') (by repeat (first | exact .head | apply Sel.tail)) (by repeat (first | exact .head | apply Sel.tail)) (by simp [hS.ly, hj])) ?_
        refine ge_imp (fs (i := j) (l := xs.map (oK X (⟨b, n⟩ : CB))) (A := oK X (⟨b, n⟩ : CB) (some (p, (goC (⟨b, n⟩ : CB) L w co).2.2))) (by repeat (first | exact .head | apply Sel.tail)) (by repeat (first | exact .head | apply Sel.tail)) (by simp [hS.lx, hj])) ?_
        have hS' := hS.step hi4 (j := j) (p := p) hj hx hy hxy.2.1 hxy.1 hxy.2.2.2 (y' := y') hyk (by have := hxy.2.2.1; omega) hyr
        have hti := ktouched_in (v := co.over) ht0 (by omega : t ≤ 100000)
        have hov : (xs.set j (some (p, (goC (⟨b, n⟩ : CB) L w co).2.2))).map oVK = xs.map oVK := by rw [List.map_set]; exact map_sameP (f := oVK) (y := some (p, co)) hx
        exact fun act wo hsl st => ⟨(goC (⟨b, n⟩ : CB) L w co).1, _, tr', (goC (⟨b, n⟩ : CB) L w co).2.1, _, _, hS', hti.1, by omega, hsl.keep (Keep.cons rfl (Keep.cons rfl (Keep.cons rfl (Keep.cons rfl (Keep.cons rfl (Keep.cons rfl (Keep.cons rfl (Keep.cons rfl (Keep.cons rfl (Keep.nil)))))))))), st.imp (by rw [hov]; simp only [List.map_set]; exact (To.sat (by repeat (first | exact .nil | exact .done .refl | (apply To.cons; · (repeat (first | exact .head | apply Sel.tail))) | exact .done (by repeat (first | exact .refl | apply Drop.skip))))))⟩
       ·
        first | replace hc14 := of_decide_eq_true hc14 | replace hc14 := lt_f hc14 | replace hc14 := le_f hc14 | replace hc14 := dec_f hc14 | replace hc14 := nlt_t hc14 | replace hc14 := nle_t hc14 | replace hc14 := ndec_t hc14 | replace hc14 := ndec_f hc14 | replace hc14 := nn_t hc14 | replace hc14 := nn_f hc14 | skip
        refine g_skip ?_
        exact fun act wo hsl st => ⟨L, t, tr, w, xs, ys, hS.mono (by omega), ht0, by omega, hsl.keep (Keep.cons rfl (Keep.cons rfl (Keep.cons rfl (Keep.cons rfl (Keep.cons rfl (Keep.cons rfl (Keep.cons rfl (Keep.cons rfl (Keep.cons rfl (Keep.nil)))))))))), st.imp (To.sat (by repeat (first | exact .nil | exact .done .refl | (apply To.cons; · (repeat (first | exact .head | apply Sel.tail))) | exact .done (by repeat (first | exact .refl | apply Drop.skip)))))⟩
     ·
      rintro act wo ⟨L, t, tr, w, xs, ys, hS, ht0, ht1, hsl, st⟩
      refine g_of ?_ hsl st
      clear hsl st act wo
      refine g_seq ?_
      obtain ⟨x, y, hx, hy, hxy⟩ := hS.all j hj
      have hxv : (xs.map oVK)[j * 1]? = some (oVK x) := by rw [Nat.mul_one]; exact map_at' hx
      have hL9 : L.length ≤ 200 := by have := hS.len; have := hS.n5; have := hS.b3; omega
      have hTl : (w.T.map (·.id)).length ≤ 4611686018427387904 := by rw [List.length_map]; have := hS.ws.ok.len; omega
      refine g_fo (l := xs.map (oK X (⟨b, n⟩ : CB))) (i := j) (A := oK X (⟨b, n⟩ : CB) x) (by repeat (first | exact .head | apply Sel.tail)) (map_at' (f := oK X (⟨b, n⟩ : CB)) hx) ?_
      refine g_fo (l := ys.map kA) (i := j) (A := kA y) (by repeat (first | exact .head | apply Sel.tail)) (map_at' (f := kA) hy) ?_
      refine g_imp (fun h s => Sel.to (A := rmemA q L tr) (by repeat (first | exact .head | apply Sel.tail)) s) ?_
      refine g_open .head ?_
      rintro ⟨ax, cx⟩ -
      simp only [List.cons_append, List.nil_append]
      refine g_imp (fun h s => Sel.to (A := rclk b34 (⟨b, n⟩ : CB) w) (by repeat (first | exact .head | apply Sel.tail)) s) ?_
      refine g_open .head ?_
      rintro ⟨i1, j1, i2, j2⟩ -
      simp only [List.cons_append, List.nil_append]
      refine g_draw [14, 19, 24, 29, 35] [19, 29] [(0, .loc), (1, .loc), (2, .loc), (3, .loc), (4, .loc), (5, .loc), (6, .loc), (7, .loc), (8, .loc), (9, .loc), (10, .loc), (11, .loc), (12, .loc), (13, .loc), (14, .eff), (15, .loc), (16, .loc), (17, .loc), (18, .loc), (20, .stab), (21, .stab), (22, .stab), (23, .stab), (19, .eff), (24, .eff), (25, .loc), (26, .loc), (27, .loc), (28, .loc), (30, .stab), (31, .stab), (32, .stab), (33, .stab), (34, .stab), (29, .eff), (35, .eff), (36, .loc), (37, .loc)] [own (.slice a79 5 c79) 29 1 5 (xs.map oVK), own (.slice a80 5 c80) 76 12 5 (ys.flatMap kV), cel b34 49 [I64 b, I64 n, I64 w.now, .slice i1 w.T.length j1, .slice i2 w.T.length j2], cel q 54 [.slice ax L.length cx, I64 tr]] mixed (by kernel_rfl) ?_
      refine go_v rfl .none rfl (o_move rfl) ?_
      refine go_v rfl .none rfl (o_move rfl) ?_
      refine go_v rfl .none rfl (o_idxS rfl rfl (by first | assumption | omega)) ?_
      refine go_v rfl .none rfl (o_loadS rfl hxv) ?_
      refine go_v rfl .none rfl (o_neqK rfl rfl) ?_
      refine go_v rfl .none rfl (o_move rfl) ?_
      refine go_split (j := 5) rfl rfl (fun hc15 => ?_) (fun hc15 => ?_)
      ·
       have hc15' := hc15
       first | replace hc15' := of_decide_eq_true hc15' | replace hc15' := lt_f hc15' | replace hc15' := le_f hc15' | replace hc15' := dec_f hc15' | replace hc15' := nlt_t hc15' | replace hc15' := nle_t hc15' | replace hc15' := ndec_t hc15' | replace hc15' := ndec_f hc15' | replace hc15' := nn_t hc15' | replace hc15' := nn_f hc15' | skip
       obtain ⟨⟨p, co⟩, rfl⟩ : ∃ q, x = some q := by cases x with | none => simp at * | some q => exact ⟨q, rfl⟩
       refine go_v rfl (.yes rfl rfl hc15) rfl (o_move rfl) ?_
       refine go_v rfl (.yes rfl rfl hc15) rfl (o_move rfl) ?_
       refine go_v rfl (.yes rfl rfl hc15) rfl (o_idxS rfl rfl (by first | assumption | omega)) ?_
       refine go_v rfl (.yes rfl rfl hc15) rfl (o_loadS rfl hxv) ?_
       refine go_v rfl (.yes rfl rfl hc15) rfl (o_move rfl) ?_
       refine go_v rfl (.yes rfl rfl hc15) rfl (o_move rfl) ?_
       refine go_v rfl (.yes rfl rfl hc15) rfl (o_idxS rfl rfl (by first | assumption | omega)) ?_
       refine go_v rfl (.yes rfl rfl hc15) rfl (o_loadSA rfl (flat_take kV 12 (fun _ => rfl) hy) rfl) ?_
       refine go_c rfl (.yes rfl rfl hc15) rfl (o_call rfl (klike_spec X (⟨b, n⟩ : CB) p w co y hxy.2.1 (fun h => (hxy.1.run h).2.1) (by have : co.due.length ≤ 64 := hxy.2.2.2; omega) (by have : co.cut.length + co.ref.length + Go.L.Clk.leftOf co.ph ≤ 64 := hxy.1.tot; omega) (by have : co.cut.length + co.ref.length + Go.L.Clk.leftOf co.ph ≤ 64 := hxy.1.tot; omega)) (by repeat (first | exact .nil | (apply Part.cons; · (repeat (first | exact .head | apply Sel.tail)))))) ?_
       rintro _ R ⟨_, ⟨rfl, rfl⟩, rfl⟩
       try simp only [List.cons_append, List.nil_append]
       refine ⟨(fun hG => absurd hG (by decide)), ?_⟩
       refine go_v rfl (.yes rfl rfl hc15) rfl (o_is (c := false) (by rfl) (o_not rfl)) ?_
       refine go_v rfl .none rfl (o_pickT hc15 rfl rfl) ?_
       refine go_v rfl .none rfl (o_move rfl) ?_
       refine go_v rfl (.yes rfl rfl rfl) rfl (o_move rfl) ?_
       refine go_vs rfl (.yes rfl rfl rfl) rfl (o_move rfl) (To.sat (by repeat (first | exact .nil | exact .done .refl | (apply To.cons; · (repeat (first | exact .head | apply Sel.tail))) | exact .done (by repeat (first | exact .refl | apply Drop.skip))))) ?_
       refine go_vs rfl (.yes rfl rfl rfl) rfl (o_nil rfl) (To.sat (by repeat (first | exact .nil | exact .done .refl | (apply To.cons; · (repeat (first | exact .head | apply Sel.tail))) | exact .done (by repeat (first | exact .refl | apply Drop.skip))))) ?_
       first | refine go_vs rfl (.yes rfl rfl rfl) rfl (o_fldS rfl) (To.sat (by repeat (first | exact .nil | exact .done .refl | (apply To.cons; · (repeat (first | exact .head | apply Sel.tail))) | exact .done (by repeat (first | exact .refl | apply Drop.skip))))) ?_ | refine go_vs rfl (.yes rfl rfl rfl) rfl (o_fld rfl) (To.sat (by repeat (first | exact .nil | exact .done .refl | (apply To.cons; · (repeat (first | exact .head | apply Sel.tail))) | exact .done (by repeat (first | exact .refl | apply Drop.skip))))) ?_
       first | refine go_vs rfl (.yes rfl rfl rfl) rfl (o_load rfl rfl) (To.sat (by repeat (first | exact .nil | exact .done .refl | (apply To.cons; · (repeat (first | exact .head | apply Sel.tail))) | exact .done (by repeat (first | exact .refl | apply Drop.skip))))) ?_ | refine go_vs rfl (.yes rfl rfl rfl) rfl (o_loadS rfl rfl) (To.sat (by repeat (first | exact .nil | exact .done .refl | (apply To.cons; · (repeat (first | exact .head | apply Sel.tail))) | exact .done (by repeat (first | exact .refl | apply Drop.skip))))) ?_ | refine go_vs rfl (.yes rfl rfl rfl) rfl (o_loadC rfl) (To.sat (by repeat (first | exact .nil | exact .done .refl | (apply To.cons; · (repeat (first | exact .head | apply Sel.tail))) | exact .done (by repeat (first | exact .refl | apply Drop.skip))))) ?_
       refine go_c rfl (.yes rfl rfl rfl) rfl (o_call rfl (KAll X (⟨b, n⟩ : CB) L t w (by omega)) (by repeat (first | exact .nil | (apply Part.cons; · (repeat (first | exact .head | apply Sel.tail)))))) ?_
       rintro _ R ⟨_, ⟨a9, c9, rfl, rfl⟩, rfl⟩
       try simp only [List.cons_append, List.nil_append]
       refine ⟨(fun _ => (To.sat (by repeat (first | exact .nil | exact .done .refl | (apply To.cons; · (repeat (first | exact .head | apply Sel.tail))) | exact .done (by repeat (first | exact .refl | apply Drop.skip)))))), ?_⟩
       refine go_c rfl (.yes rfl rfl rfl) rfl (o_call rfl (rSame_spec (.slice a9 L.length c9) (.slice ax L.length cx) L L (by omega) (by omega) (own (.slice a9 L.length c9) 22 1 L.length (L.map U64)) (own (.slice ax L.length cx) 22 1 L.length (L.map U64))) (by repeat (first | exact .nil | (apply Part.cons; · (repeat (first | exact .head | apply Sel.tail)))))) ?_
       rintro _ R ⟨_, ⟨rfl, rfl⟩, rfl⟩
       try simp only [List.cons_append, List.nil_append]
       refine ⟨(fun hG => absurd hG (by decide)), ?_⟩
       refine go_v rfl (.yes rfl rfl rfl) rfl (o_is (c := false) (by simp) (o_not rfl)) ?_
       refine go_v rfl .none rfl (o_pickF rfl rfl rfl) ?_
       refine go_v rfl .none rfl (o_move rfl) ?_
       refine go_v rfl (.yes rfl rfl rfl) rfl (o_move rfl) ?_
       refine go_vs rfl (.yes rfl rfl rfl) rfl (o_move rfl) (To.sat (by repeat (first | exact .nil | exact .done .refl | (apply To.cons; · (repeat (first | exact .head | apply Sel.tail))) | exact .done (by repeat (first | exact .refl | apply Drop.skip))))) ?_
       refine go_vs rfl (.yes rfl rfl rfl) rfl (o_nil rfl) (To.sat (by repeat (first | exact .nil | exact .done .refl | (apply To.cons; · (repeat (first | exact .head | apply Sel.tail))) | exact .done (by repeat (first | exact .refl | apply Drop.skip))))) ?_
       first | refine go_vs rfl (.yes rfl rfl rfl) rfl (o_fldS rfl) (To.sat (by repeat (first | exact .nil | exact .done .refl | (apply To.cons; · (repeat (first | exact .head | apply Sel.tail))) | exact .done (by repeat (first | exact .refl | apply Drop.skip))))) ?_ | refine go_vs rfl (.yes rfl rfl rfl) rfl (o_fld rfl) (To.sat (by repeat (first | exact .nil | exact .done .refl | (apply To.cons; · (repeat (first | exact .head | apply Sel.tail))) | exact .done (by repeat (first | exact .refl | apply Drop.skip))))) ?_
       first | refine go_vs rfl (.yes rfl rfl rfl) rfl (o_fldS rfl) (To.sat (by repeat (first | exact .nil | exact .done .refl | (apply To.cons; · (repeat (first | exact .head | apply Sel.tail))) | exact .done (by repeat (first | exact .refl | apply Drop.skip))))) ?_ | refine go_vs rfl (.yes rfl rfl rfl) rfl (o_fld rfl) (To.sat (by repeat (first | exact .nil | exact .done .refl | (apply To.cons; · (repeat (first | exact .head | apply Sel.tail))) | exact .done (by repeat (first | exact .refl | apply Drop.skip))))) ?_
       first | refine go_vs rfl (.yes rfl rfl rfl) rfl (o_load rfl rfl) (To.sat (by repeat (first | exact .nil | exact .done .refl | (apply To.cons; · (repeat (first | exact .head | apply Sel.tail))) | exact .done (by repeat (first | exact .refl | apply Drop.skip))))) ?_ | refine go_vs rfl (.yes rfl rfl rfl) rfl (o_loadS rfl rfl) (To.sat (by repeat (first | exact .nil | exact .done .refl | (apply To.cons; · (repeat (first | exact .head | apply Sel.tail))) | exact .done (by repeat (first | exact .refl | apply Drop.skip))))) ?_ | refine go_vs rfl (.yes rfl rfl rfl) rfl (o_loadC rfl) (To.sat (by repeat (first | exact .nil | exact .done .refl | (apply To.cons; · (repeat (first | exact .head | apply Sel.tail))) | exact .done (by repeat (first | exact .refl | apply Drop.skip))))) ?_
       refine go_c rfl (.yes rfl rfl rfl) rfl (o_call rfl (KIdsE X (⟨b, n⟩ : CB) L t w hS.ws.wi) (by repeat (first | exact .nil | (apply Part.cons; · (repeat (first | exact .head | apply Sel.tail)))))) ?_
       rintro _ R ⟨_, ⟨a7, c7, rfl, rfl⟩, rfl⟩
       try simp only [List.cons_append, List.nil_append]
       refine ⟨(fun _ => (To.sat (by repeat (first | exact .nil | exact .done .refl | (apply To.cons; · (repeat (first | exact .head | apply Sel.tail))) | exact .done (by repeat (first | exact .refl | apply Drop.skip)))))), ?_⟩
       refine go_c rfl (.yes rfl rfl rfl) rfl (o_call rfl (same_ids a7 c7 i1 j1 w.T hTl) (by repeat (first | exact .nil | (apply Part.cons; · (repeat (first | exact .head | apply Sel.tail)))))) ?_
       rintro _ R ⟨_, ⟨rfl, rfl⟩, rfl⟩
       try simp only [List.cons_append, List.nil_append]
       refine ⟨(fun hG => absurd hG (by decide)), ?_⟩
       refine go_v rfl (.yes rfl rfl rfl) rfl (o_is (c := false) (by rfl) (o_not rfl)) ?_
       refine go_v rfl .none rfl (o_pickF rfl rfl rfl) ?_
       refine go_nil ?_
       first
       | (refine ge_imp (fs (i := j) (l := ys.map kA) (A := kA y) (by repeat (first | exact .head | apply Sel.tail)) (by repeat (first | exact .head | apply Sel.tail)) (by simp [hS.ly, hj])) ?_; rw [map_sameP (f := kA) hy])
       first
       | (refine ge_imp (fs (i := j) (l := xs.map (oK X (⟨b, n⟩ : CB))) (A := oK X (⟨b, n⟩ : CB) x) (by repeat (first | exact .head | apply Sel.tail)) (by repeat (first | exact .head | apply Sel.tail)) (by simp [hS.lx, hj])) ?_; rw [map_sameP (f := oK X (⟨b, n⟩ : CB)) hx])
       | (refine ge_imp (fs (i := j) (l := xs.map (oK X (⟨b, n⟩ : CB))) (A := oK X (⟨b, n⟩ : CB) (some (p, co))) (by repeat (first | exact .head | apply Sel.tail)) (by repeat (first | exact .head | apply Sel.tail)) (by simp [hS.lx, hj])) ?_; rw [map_sameP (f := oK X (⟨b, n⟩ : CB)) hx])
       refine ge_imp (rmem_shut (p := q) (L := L) (t := tr) ax cx (by repeat (first | exact .head | apply Sel.tail)) (by repeat (first | exact .head | apply Sel.tail))) ?_
       refine ge_imp (rclk_shut (c := b34) (B := (⟨b, n⟩ : CB)) (w := w) i1 j1 i2 j2 (by repeat (first | exact .head | apply Sel.tail)) (by repeat (first | exact .head | apply Sel.tail)) (by repeat (first | exact .head | apply Sel.tail))) ?_
       refine ge_then ?_
       refine g_cond_false rfl ?_
       refine g_skip ?_
       refine ge_block ?_
       refine ge_then ?_
       refine g_region ?_
       refine gl_v rfl (o_move rfl) ?_
       refine gl_v rfl (o_addR _ (by first | exact wr_i64 (by omega) | rfl) rfl rfl) ?_
       refine gl_v rfl (o_assign rfl) ?_
       refine gl_nil ?_
       refine ge_round (i + 1, L, t, tr, w, xs, ys) ⟨hS, by show i + 1 ≤ 400; omega, by show i + 1 ≤ vs.length; omega, ht0, by show t ≤ 1000 + ((i + 1 : Nat) : Int); omega⟩ (by show 400 - (i + 1) < 400 - i; omega) (Keep.cons rfl (Keep.cons rfl (Keep.cons rfl (Keep.cons rfl (Keep.cons rfl (Keep.cons rfl (Keep.cons rfl (Keep.cons rfl (Keep.nil))))))))) (To.sat (by repeat (first | exact .nil | exact .done .refl | (apply To.cons; · (repeat (first | exact .head | apply Sel.tail))) | exact .done (by repeat (first | exact .refl | apply Drop.skip)))))
      ·
       have hc15' := hc15
       first | replace hc15' := of_decide_eq_true hc15' | replace hc15' := lt_f hc15' | replace hc15' := le_f hc15' | replace hc15' := dec_f hc15' | replace hc15' := nlt_t hc15' | replace hc15' := nle_t hc15' | replace hc15' := ndec_t hc15' | replace hc15' := ndec_f hc15' | replace hc15' := nn_t hc15' | replace hc15' := nn_f hc15' | skip
       refine go_skip rfl (.no rfl rfl hc15) rfl ?_
       refine go_skip rfl (.no rfl rfl hc15) rfl ?_
       refine go_skip rfl (.no rfl rfl hc15) rfl ?_
       refine go_skip rfl (.no rfl rfl hc15) rfl ?_
       refine go_skip rfl (.no rfl rfl hc15) rfl ?_
       refine go_skip rfl (.no rfl rfl hc15) rfl ?_
       refine go_skip rfl (.no rfl rfl hc15) rfl ?_
       refine go_skip rfl (.no rfl rfl hc15) rfl ?_
       refine go_skip rfl (.no rfl rfl hc15) rfl ?_
       refine go_skip rfl (.no rfl rfl hc15) rfl ?_
       refine go_v rfl .none rfl (o_pickF hc15 rfl rfl) ?_
       refine go_v rfl .none rfl (o_move rfl) ?_
       refine go_v rfl (.yes rfl rfl rfl) rfl (o_move rfl) ?_
       refine go_vs rfl (.yes rfl rfl rfl) rfl (o_move rfl) (To.sat (by repeat (first | exact .nil | exact .done .refl | (apply To.cons; · (repeat (first | exact .head | apply Sel.tail))) | exact .done (by repeat (first | exact .refl | apply Drop.skip))))) ?_
       refine go_vs rfl (.yes rfl rfl rfl) rfl (o_nil rfl) (To.sat (by repeat (first | exact .nil | exact .done .refl | (apply To.cons; · (repeat (first | exact .head | apply Sel.tail))) | exact .done (by repeat (first | exact .refl | apply Drop.skip))))) ?_
       first | refine go_vs rfl (.yes rfl rfl rfl) rfl (o_fldS rfl) (To.sat (by repeat (first | exact .nil | exact .done .refl | (apply To.cons; · (repeat (first | exact .head | apply Sel.tail))) | exact .done (by repeat (first | exact .refl | apply Drop.skip))))) ?_ | refine go_vs rfl (.yes rfl rfl rfl) rfl (o_fld rfl) (To.sat (by repeat (first | exact .nil | exact .done .refl | (apply To.cons; · (repeat (first | exact .head | apply Sel.tail))) | exact .done (by repeat (first | exact .refl | apply Drop.skip))))) ?_
       first | refine go_vs rfl (.yes rfl rfl rfl) rfl (o_load rfl rfl) (To.sat (by repeat (first | exact .nil | exact .done .refl | (apply To.cons; · (repeat (first | exact .head | apply Sel.tail))) | exact .done (by repeat (first | exact .refl | apply Drop.skip))))) ?_ | refine go_vs rfl (.yes rfl rfl rfl) rfl (o_loadS rfl rfl) (To.sat (by repeat (first | exact .nil | exact .done .refl | (apply To.cons; · (repeat (first | exact .head | apply Sel.tail))) | exact .done (by repeat (first | exact .refl | apply Drop.skip))))) ?_ | refine go_vs rfl (.yes rfl rfl rfl) rfl (o_loadC rfl) (To.sat (by repeat (first | exact .nil | exact .done .refl | (apply To.cons; · (repeat (first | exact .head | apply Sel.tail))) | exact .done (by repeat (first | exact .refl | apply Drop.skip))))) ?_
       refine go_c rfl (.yes rfl rfl rfl) rfl (o_call rfl (KAll X (⟨b, n⟩ : CB) L t w (by omega)) (by repeat (first | exact .nil | (apply Part.cons; · (repeat (first | exact .head | apply Sel.tail)))))) ?_
       rintro _ R ⟨_, ⟨a9, c9, rfl, rfl⟩, rfl⟩
       try simp only [List.cons_append, List.nil_append]
       refine ⟨(fun _ => (To.sat (by repeat (first | exact .nil | exact .done .refl | (apply To.cons; · (repeat (first | exact .head | apply Sel.tail))) | exact .done (by repeat (first | exact .refl | apply Drop.skip)))))), ?_⟩
       refine go_c rfl (.yes rfl rfl rfl) rfl (o_call rfl (rSame_spec (.slice a9 L.length c9) (.slice ax L.length cx) L L (by omega) (by omega) (own (.slice a9 L.length c9) 22 1 L.length (L.map U64)) (own (.slice ax L.length cx) 22 1 L.length (L.map U64))) (by repeat (first | exact .nil | (apply Part.cons; · (repeat (first | exact .head | apply Sel.tail)))))) ?_
       rintro _ R ⟨_, ⟨rfl, rfl⟩, rfl⟩
       try simp only [List.cons_append, List.nil_append]
       refine ⟨(fun hG => absurd hG (by decide)), ?_⟩
       refine go_v rfl (.yes rfl rfl rfl) rfl (o_is (c := false) (by simp) (o_not rfl)) ?_
       refine go_v rfl .none rfl (o_pickF rfl rfl rfl) ?_
       refine go_v rfl .none rfl (o_move rfl) ?_
       refine go_v rfl (.yes rfl rfl rfl) rfl (o_move rfl) ?_
       refine go_vs rfl (.yes rfl rfl rfl) rfl (o_move rfl) (To.sat (by repeat (first | exact .nil | exact .done .refl | (apply To.cons; · (repeat (first | exact .head | apply Sel.tail))) | exact .done (by repeat (first | exact .refl | apply Drop.skip))))) ?_
       refine go_vs rfl (.yes rfl rfl rfl) rfl (o_nil rfl) (To.sat (by repeat (first | exact .nil | exact .done .refl | (apply To.cons; · (repeat (first | exact .head | apply Sel.tail))) | exact .done (by repeat (first | exact .refl | apply Drop.skip))))) ?_
       first | refine go_vs rfl (.yes rfl rfl rfl) rfl (o_fldS rfl) (To.sat (by repeat (first | exact .nil | exact .done .refl | (apply To.cons; · (repeat (first | exact .head | apply Sel.tail))) | exact .done (by repeat (first | exact .refl | apply Drop.skip))))) ?_ | refine go_vs rfl (.yes rfl rfl rfl) rfl (o_fld rfl) (To.sat (by repeat (first | exact .nil | exact .done .refl | (apply To.cons; · (repeat (first | exact .head | apply Sel.tail))) | exact .done (by repeat (first | exact .refl | apply Drop.skip))))) ?_
       first | refine go_vs rfl (.yes rfl rfl rfl) rfl (o_fldS rfl) (To.sat (by repeat (first | exact .nil | exact .done .refl | (apply To.cons; · (repeat (first | exact .head | apply Sel.tail))) | exact .done (by repeat (first | exact .refl | apply Drop.skip))))) ?_ | refine go_vs rfl (.yes rfl rfl rfl) rfl (o_fld rfl) (To.sat (by repeat (first | exact .nil | exact .done .refl | (apply To.cons; · (repeat (first | exact .head | apply Sel.tail))) | exact .done (by repeat (first | exact .refl | apply Drop.skip))))) ?_
       first | refine go_vs rfl (.yes rfl rfl rfl) rfl (o_load rfl rfl) (To.sat (by repeat (first | exact .nil | exact .done .refl | (apply To.cons; · (repeat (first | exact .head | apply Sel.tail))) | exact .done (by repeat (first | exact .refl | apply Drop.skip))))) ?_ | refine go_vs rfl (.yes rfl rfl rfl) rfl (o_loadS rfl rfl) (To.sat (by repeat (first | exact .nil | exact .done .refl | (apply To.cons; · (repeat (first | exact .head | apply Sel.tail))) | exact .done (by repeat (first | exact .refl | apply Drop.skip))))) ?_ | refine go_vs rfl (.yes rfl rfl rfl) rfl (o_loadC rfl) (To.sat (by repeat (first | exact .nil | exact .done .refl | (apply To.cons; · (repeat (first | exact .head | apply Sel.tail))) | exact .done (by repeat (first | exact .refl | apply Drop.skip))))) ?_
       refine go_c rfl (.yes rfl rfl rfl) rfl (o_call rfl (KIdsE X (⟨b, n⟩ : CB) L t w hS.ws.wi) (by repeat (first | exact .nil | (apply Part.cons; · (repeat (first | exact .head | apply Sel.tail)))))) ?_
       rintro _ R ⟨_, ⟨a7, c7, rfl, rfl⟩, rfl⟩
       try simp only [List.cons_append, List.nil_append]
       refine ⟨(fun _ => (To.sat (by repeat (first | exact .nil | exact .done .refl | (apply To.cons; · (repeat (first | exact .head | apply Sel.tail))) | exact .done (by repeat (first | exact .refl | apply Drop.skip)))))), ?_⟩
       refine go_c rfl (.yes rfl rfl rfl) rfl (o_call rfl (same_ids a7 c7 i1 j1 w.T hTl) (by repeat (first | exact .nil | (apply Part.cons; · (repeat (first | exact .head | apply Sel.tail)))))) ?_
       rintro _ R ⟨_, ⟨rfl, rfl⟩, rfl⟩
       try simp only [List.cons_append, List.nil_append]
       refine ⟨(fun hG => absurd hG (by decide)), ?_⟩
       refine go_v rfl (.yes rfl rfl rfl) rfl (o_is (c := false) (by rfl) (o_not rfl)) ?_
       refine go_v rfl .none rfl (o_pickF rfl rfl rfl) ?_
       refine go_nil ?_
       first
       | (refine ge_imp (fs (i := j) (l := ys.map kA) (A := kA y) (by repeat (first | exact .head | apply Sel.tail)) (by repeat (first | exact .head | apply Sel.tail)) (by simp [hS.ly, hj])) ?_; rw [map_sameP (f := kA) hy])
       first
       | (refine ge_imp (fs (i := j) (l := xs.map (oK X (⟨b, n⟩ : CB))) (A := oK X (⟨b, n⟩ : CB) x) (by repeat (first | exact .head | apply Sel.tail)) (by repeat (first | exact .head | apply Sel.tail)) (by simp [hS.lx, hj])) ?_; rw [map_sameP (f := oK X (⟨b, n⟩ : CB)) hx])
       | (refine ge_imp (fs (i := j) (l := xs.map (oK X (⟨b, n⟩ : CB))) (A := oK X (⟨b, n⟩ : CB) (some (p, co))) (by repeat (first | exact .head | apply Sel.tail)) (by repeat (first | exact .head | apply Sel.tail)) (by simp [hS.lx, hj])) ?_; rw [map_sameP (f := oK X (⟨b, n⟩ : CB)) hx])
       refine ge_imp (rmem_shut (p := q) (L := L) (t := tr) ax cx (by repeat (first | exact .head | apply Sel.tail)) (by repeat (first | exact .head | apply Sel.tail))) ?_
       refine ge_imp (rclk_shut (c := b34) (B := (⟨b, n⟩ : CB)) (w := w) i1 j1 i2 j2 (by repeat (first | exact .head | apply Sel.tail)) (by repeat (first | exact .head | apply Sel.tail)) (by repeat (first | exact .head | apply Sel.tail))) ?_
       refine ge_then ?_
       refine g_cond_false rfl ?_
       refine g_skip ?_
       refine ge_block ?_
       refine ge_then ?_
       refine g_region ?_
       refine gl_v rfl (o_move rfl) ?_
       refine gl_v rfl (o_addR _ (by first | exact wr_i64 (by omega) | rfl) rfl rfl) ?_
       refine gl_v rfl (o_assign rfl) ?_
       refine gl_nil ?_
       refine ge_round (i + 1, L, t, tr, w, xs, ys) ⟨hS, by show i + 1 ≤ 400; omega, by show i + 1 ≤ vs.length; omega, ht0, by show t ≤ 1000 + ((i + 1 : Nat) : Int); omega⟩ (by show 400 - (i + 1) < 400 - i; omega) (Keep.cons rfl (Keep.cons rfl (Keep.cons rfl (Keep.cons rfl (Keep.cons rfl (Keep.cons rfl (Keep.cons rfl (Keep.cons rfl (Keep.nil))))))))) (To.sat (by repeat (first | exact .nil | exact .done .refl | (apply To.cons; · (repeat (first | exact .head | apply Sel.tail))) | exact .done (by repeat (first | exact .refl | apply Drop.skip)))))
  ·
   first | replace hc2 := of_decide_eq_true hc2 | replace hc2 := lt_f hc2 | replace hc2 := le_f hc2 | replace hc2 := dec_f hc2 | replace hc2 := nlt_t hc2 | replace hc2 := nle_t hc2 | replace hc2 := ndec_t hc2 | replace hc2 := ndec_f hc2 | replace hc2 := nn_t hc2 | replace hc2 := nn_f hc2 | skip
   refine g_exit ?_
   refine ge_then_exit ?_
   refine ge_then_exit ?_
   refine ge_block_exit ?_
   refine ge_then ?_
   refine g_seq ?_
   refine g_region ?_
   refine gl_v rfl (o_assign rfl) ?_
   refine gl_nil ?_
   refine ge_then ?_
   refine g_ret ?_
   refine ret1 (.inl rfl) rfl rfl _ (⟨rfl, rfl⟩) (To.sat (by repeat (first | exact .nil | exact .done .refl | (apply To.cons; · (repeat (first | exact .head | apply Sel.tail))) | exact .done (by repeat (first | exact .refl | apply Drop.skip)))))
 ·
  have hc1' := hc1
  first | replace hc1' := of_decide_eq_true hc1' | replace hc1' := lt_f hc1' | replace hc1' := le_f hc1' | replace hc1' := dec_f hc1' | replace hc1' := nlt_t hc1' | replace hc1' := nle_t hc1' | replace hc1' := ndec_t hc1' | replace hc1' := ndec_f hc1' | replace hc1' := nn_t hc1' | replace hc1' := nn_f hc1' | skip
  simp only [putO]
  refine gl_gF rfl rfl hc1 rfl ?_
  refine gl_v rfl (o_pickF hc1 rfl rfl) ?_
  refine gl_nil ?_
  refine ge_then ?_
  refine g_cond_false rfl ?_
  refine g_exit ?_
  refine ge_then_exit ?_
  refine ge_then_exit ?_
  refine ge_block_exit ?_
  refine ge_then ?_
  refine g_seq ?_
  refine g_region ?_
  refine gl_v rfl (o_assign rfl) ?_
  refine gl_nil ?_
  refine ge_then ?_
  refine g_ret ?_
  refine ret1 (.inl rfl) rfl rfl _ (⟨rfl, rfl⟩) (To.sat (by repeat (first | exact .nil | exact .done .refl | (apply To.cons; · (repeat (first | exact .head | apply Sel.tail))) | exact .done (by repeat (first | exact .refl | apply Drop.skip)))))

end Go.Proofs.YtmohikdmdmplaaaGreat.L
