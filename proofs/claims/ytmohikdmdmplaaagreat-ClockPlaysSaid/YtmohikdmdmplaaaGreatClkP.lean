/-
  ClockPlays: the document's operations, and what is looked at. Own work, printed in part by a program of its own.
-/
import Derived.Test.YtmohikdmdmplaaaGreatClkMl
import Derived.Test.YtmohikdmdmplaaaGreatRingNg
import Derived.Test.YtmohikdmdmplaaaGreatWheelT
import Derived.Test.YtmohikdmdmplaaaGreatClockN
set_option linter.unusedSimpArgs false
set_option linter.unusedVariables false
set_option linter.unusedSectionVars false
namespace Go.Proofs.YtmohikdmdmplaaaGreat.L
open Go.L Go.L.Ring Go.L.Post Go.L.Clk Go.L.Whl
theorem map_sameP {α β : Type} {f : α → β} {l : List α} {p : Nat} {y : α} (h : l[p]? = some y) : (l.map f).set p (f y) = l.map f := by
  obtain ⟨hp, e⟩ := List.getElem?_eq_some_iff.1 h
  apply List.ext_getElem (by simp)
  intro i h1 h2
  rw [List.getElem_set]
  split
  · rename_i e2; subst e2; simp [e]
  · rfl
theorem splice_flat {α : Type} (f : α → List Value) (sz : Nat) (hf : ∀ x, (f x).length = sz) (x : α) : ∀ (l : List α) (i : Nat), i < l.length → splice (l.flatMap f) (i * sz) (f x) = (l.set i x).flatMap f := by
  intro l i hi
  have h1 := flat_length f sz hf l
  rw [splice_take _ _ _ (by rw [hf, h1]; have : (i + 1) * sz ≤ l.length * sz := Nat.mul_le_mul_right _ hi; rw [Nat.add_mul] at this; omega)]
  have h2 : (l.flatMap f).take (i * sz) = (l.take i).flatMap f := by
    conv => lhs; rw [← List.take_append_drop i l, List.flatMap_append]
    rw [List.take_append_of_le_length (by rw [flat_length f sz hf, List.length_take]; exact Nat.le_of_eq (by rw [Nat.min_eq_left (by omega)])), List.take_of_length_le (by rw [flat_length f sz hf, List.length_take, Nat.min_eq_left (by omega)]; exact Nat.le_refl _)]
  have h3 : (l.flatMap f).drop (i * sz + (f x).length) = (l.drop (i + 1)).flatMap f := by
    rw [hf, show i * sz + sz = (i + 1) * sz by rw [Nat.add_mul]; omega]; exact flat_drop f sz hf l (i + 1)
  rw [h2, h3, List.set_eq_take_append_cons_drop, if_pos hi, List.flatMap_append, List.flatMap_cons, List.append_assoc]
theorem fns_conv {P : Program} {f : FuncId} {args : List Value} {As : List Assn} {post post' : Value → List Assn → Prop} (h : FnS P f args As post) (g : ∀ v Bs, post v Bs → ∃ Bs', post' v Bs' ∧ ∀ R h, Sat (Bs ++ R) h → Sat (Bs' ++ R) h) : FnS P f args As post' :=
  fun W0 R w s => (h W0 R w s).mono fun _ _ ⟨v, Bs, e, p, s⟩ => let ⟨Bs', p', f⟩ := g v Bs p; ⟨v, Bs', e, p', s.imp (f R)⟩
theorem rstep_spec (p b n : Nat) (hn : 1 ≤ n) (hn2 : n ≤ 64) (hb : b ≤ 65536) (kind v : Int) (hk : 1 ≤ kind ∧ kind ≤ 5) (hv : 0 ≤ v ∧ v ≤ 18446744073709551615) (a : Option Addr) (c : Nat) (l : List Int) (hl : LI l) (hm : l.length ≤ 100000) (L : List Int) (t : Int) (hL : b + 2 + 2 * n ≤ L.length) (hLI : LI L) (o : RO) (R : RelN b n o kind v l) :
    FnS Tryz.prog 59 [ptr p 0, atV b n, opV' kind v (.slice a l.length c)] [rmemA p L t, own (.slice a l.length c) 22 1 l.length (l.map U64)]
      (fun u Bs => ∃ a' c' l' t', u = opV' kind v (.slice a' l'.length c') ∧ RelN b n (goO b n L o) kind v l' ∧ LI l' ∧ l'.length ≤ l.length + 1 ∧ Bs = [rmemA p (goL b n L o) t', own (.slice a' l'.length c') 22 1 l'.length (l'.map U64)]) := by
  have hlk := R.like
  cases ho : o.over with
  | true =>
    have g1 : goL b n L o = L := by unfold goL; rw [ho]; rfl
    have g2 : goO b n L o = o := by unfold goO; rw [ho]; rfl
    rw [g1, g2]
    exact (rstep_over p b n hn hn2 hb kind v hk hv a c l hl hm _ L t hL (by rw [hlk.1, ho])).mono fun u Bs ⟨h1, h2⟩ => ⟨a, c, l, t, h1, R, hl, by omega, h2⟩
  | false =>
    have S := R.step ho L
    refine fns_conv (rstep_go p b n hn hn2 hb kind v hk hv a c l hl hm _ L t hL (by rw [hlk.1, ho])) fun u Bs ⟨a', c', h1, h2⟩ => ⟨_, ⟨a', c', l ++ [accX (nextN b n kind v l) L], tup t, by rw [List.length_append]; exact h1, S.on, fun x hx => ?_, by simp, rfl⟩, fun R h s => ?_⟩
    · rcases List.mem_append.1 hx with hx | hx
      · exact hl x hx
      · rw [List.mem_singleton.1 hx]; exact accX_in hLI
    · subst h2
      rw [S.cells, List.length_append]
      exact Sat.tail (fun h s => Sat.tail (fun h s => Sat.drop s) s) s
theorem rmem_shut {p : Nat} {L : List Int} {t : Int} {As R1 R2 : List Assn} (a : Option Addr) (c : Nat) (s1 : Sel (cel p 54 [.slice a L.length c, I64 t]) As R1) (s2 : Sel (own (.slice a L.length c) 22 1 L.length (L.map U64)) R1 R2) : ∀ h, Sat As h → Sat (rmemA p L t :: R2) h :=
  rmem_close a c rfl rfl (fun _ s => Sat.tail (fun _ => s2.to) (s1.to s))
theorem tupN_of : ∀ k : Nat, k ≤ 1000 → tupN k 0 = k
  | 0, _ => rfl
  | k + 1, h => by rw [tupN, tupN_of k (by omega), tup_of (by omega)]; omega

/-- the document's clock -/
def rclk (c : Nat) (B : CB) (w : Wh) : Assn := exA (ι := Option Addr × Nat × Option Addr × Nat) (fun _ => True) (fun e => [cel c 49 [I64 B.b, I64 B.n, I64 w.now, .slice e.1 w.T.length e.2.1, .slice e.2.2.1 w.T.length e.2.2.2], idO e.1 e.2.1 w.T.length w.T, duO e.2.2.1 e.2.2.2 w.T.length w.T])
/-- what the document's operation holds -/
def kA (y : RK) : Assn := exA (ι := Unit) (fun _ => True) (fun _ => [tlA y.a y.c y.l, tlA y.a0 y.k0 y.due, tlA y.a1 y.k1 y.cut, tlA y.a2 y.k2 y.ref])
abbrev kV (y : RK) : List Value := [I64 y.kind, I64 y.pk, U64 y.v, tl y.a y.c y.l, I64 y.taken, .bool y.last, .bool y.over, I64 y.out, U64 y.val, tl y.a0 y.k0 y.due, tl y.a1 y.k1 y.cut, tl y.a2 y.k2 y.ref]
theorem kA_close {y : RK} {As R : List Assn} (h : ∀ h, Sat As h → Sat (tlA y.a y.c y.l :: tlA y.a0 y.k0 y.due :: tlA y.a1 y.k1 y.cut :: tlA y.a2 y.k2 y.ref :: R) h) : ∀ h, Sat As h → Sat (kA y :: R) h := ex_close () trivial h
theorem rclk_close {c : Nat} {B : CB} {w : Wh} {As R : List Assn} (i1 : Option Addr) (j1 : Nat) (i2 : Option Addr) (j2 : Nat) (h : ∀ h, Sat As h → Sat (cel c 49 [I64 B.b, I64 B.n, I64 w.now, .slice i1 w.T.length j1, .slice i2 w.T.length j2] :: idO i1 j1 w.T.length w.T :: duO i2 j2 w.T.length w.T :: R) h) : ∀ h, Sat As h → Sat (rclk c B w :: R) h := ex_close (i1, j1, i2, j2) trivial h

set_option maxRecDepth 8000 in
set_option maxHeartbeats 1000000 in
theorem with_spec (a : Option Addr) (c : Nat) (l : List Int) (id : Int) (hl : l.length ≤ 1000) : FnS Tryz.prog 81 [tl a c l, U64 id] [tlA a c l] (fun u Bs => ∃ a' c', u = tl a' c' (l ++ [id]) ∧ Bs = [tlA a' c' (l ++ [id])]) := by
 refine fn_body Tryz.func81 rfl rfl rfl ?_
 intro W0 R
 simp only [List.zipIdx_cons, List.zipIdx_nil, List.map_cons, List.map_nil, Nat.zero_add, Nat.reduceAdd, List.cons_append, List.nil_append]
 refine g_seq ?_
 refine g_region ?_
 refine gl_v rfl (o_assign rfl) ?_
 refine gl_nil ?_
 refine ge_then ?_
 refine g_seq ?_
 refine g_region ?_
 refine gl_v rfl (o_assign rfl) ?_
 refine gl_nil ?_
 refine ge_then ?_
 refine g_seq ?_
 refine g_imp (own_nil0 (e := 22) (sz := 1)) ?_
 refine g_region ?_
 refine gl_v rfl (o_move rfl) ?_
 refine gl_v rfl (o_move rfl) ?_
 refine gl_n rfl (o_appendS rfl rfl (by repeat (first | exact .head | apply Sel.tail)) rfl (by simp) (by simp [List.all_map]; intro x _; rfl) (by omega) (by unfold maxLen; omega)) ?_
 rintro _ _ ⟨a8, c8, rfl, rfl⟩
 rw [Nat.zero_add]
 simp only [List.nil_append]
 refine gl_v rfl (o_assign rfl) ?_
 refine gl_nil ?_
 refine ge_then ?_
 refine g_seq ?_
 refine g_region ?_
 refine gl_v rfl (o_move rfl) ?_
 refine gl_v rfl (o_move rfl) ?_
 first | refine gl_n rfl (o_buildS1 rfl rfl rfl) ?_ | refine gl_n rfl (o_buildS1A rfl rfl rfl rfl) ?_ | refine gl_n rfl (o_buildS rfl rfl rfl rfl) ?_
 rintro _ _ ⟨b11, rfl, rfl⟩
 refine gl_n rfl (o_append rfl rfl (by repeat (first | exact .nil | (apply Part.cons; · (repeat (first | exact .head | apply Sel.tail))))) rfl rfl rfl (by omega) (by unfold maxLen; omega)) ?_
 rintro _ _ ⟨a12, c12, rfl, rfl⟩
 rw [show l.map U64 ++ [U64 id] = (l ++ [id]).map U64 by simp, show l.length + 1 = (l ++ [id]).length by simp]
 refine gl_v rfl (o_assign rfl) ?_
 refine gl_nil ?_
 refine ge_then ?_
 refine g_ret ?_
 refine ret1 (.inl rfl) rfl rfl _ (⟨a12, c12, rfl, rfl⟩) (To.sat (by repeat (first | exact .nil | exact .done .refl | (apply To.cons; · (repeat (first | exact .head | apply Sel.tail))) | exact .done (by repeat (first | exact .refl | apply Drop.skip)))))

set_option maxRecDepth 8000 in
set_option maxHeartbeats 1000000 in
theorem rasked_ref (c : Nat) (B : CB) (w : Wh) (hw : WI w) (i1 : Option Addr) (j1 : Nat) (i2 : Option Addr) (j2 : Nat) (y : RK) (hcu : y.cut.length ≤ 1000) (hre : y.ref.length ≤ 1000) (id d : Int) (hd : 0 ≤ d ∧ d ≤ 4095) (h : d ≠ 0) (he : addE w id d ≠ 0) : FnS Tryz.prog 61 [ptr c 0, .agg ([I64 (y.kind), I64 (y.pk), U64 (y.v), tl y.a y.c y.l, I64 (y.taken), .bool (y.last), .bool (y.over), I64 (y.out), U64 (y.val), tl y.a0 y.k0 y.due, tl y.a1 y.k1 y.cut, tl y.a2 y.k2 y.ref]).toArray, U64 id, I64 d] [cel c 49 [I64 B.b, I64 B.n, I64 w.now, .slice i1 w.T.length j1, .slice i2 w.T.length j2], idO i1 j1 w.T.length w.T, duO i2 j2 w.T.length w.T, tlA y.a1 y.k1 y.cut, tlA y.a2 y.k2 y.ref] (fun u Bs => ∃ i1' j1' i2' j2' a1' k1' a2' k2', u = .agg ([I64 (y.kind), I64 (y.pk), U64 (y.v), tl y.a y.c y.l, I64 (y.taken), .bool (y.last), .bool (y.over), I64 (y.out), U64 (y.val), tl y.a0 y.k0 y.due, tl a1' k1' y.cut, tl a2' k2' (y.ref ++ [id])]).toArray ∧ Bs = [cel c 49 [I64 B.b, I64 B.n, I64 (addR w id d).now, .slice i1' (addR w id d).T.length j1', .slice i2' (addR w id d).T.length j2'], idO i1' j1' (addR w id d).T.length (addR w id d).T, duO i2' j2' (addR w id d).T.length (addR w id d).T, tlA a1' k1' y.cut, tlA a2' k2' (y.ref ++ [id])]) := by
 refine fn_body Tryz.func61 rfl rfl rfl ?_
 intro W0 R
 simp only [List.zipIdx_cons, List.zipIdx_nil, List.map_cons, List.map_nil, Nat.zero_add, Nat.reduceAdd, List.cons_append, List.nil_append]
 refine g_seq ?_
 refine g_region ?_
 refine gl_n rfl (o_boxA rfl) ?_
 rintro _ _ ⟨b5, rfl, rfl⟩
 refine gl_n rfl (o_alloc) ?_
 rintro _ _ ⟨b8, rfl, rfl⟩
 refine gl_nil ?_
 refine ge_then ?_
 refine g_seq ?_
 refine g_seq ?_
 refine g_region ?_
 refine gl_v rfl (o_move rfl) ?_
 refine gl_v rfl (o_is (c := false) (by exact decide_eq_false (by omega)) (o_eql rfl rfl)) ?_
 refine gl_nil ?_
 refine ge_then ?_
 refine g_cond_false rfl ?_
 refine g_skip ?_
 refine ge_then ?_
 refine g_seq ?_
 refine g_region ?_
 refine gl_v rfl (o_move rfl) ?_
 refine gl_v rfl (o_nil rfl) ?_
 first | refine gl_v rfl (o_fldS rfl) ?_ | refine gl_v rfl (o_fld rfl) ?_
 first | refine gl_v rfl (o_loadSA rfl rfl rfl) ?_ | refine gl_v rfl (o_loadA rfl rfl rfl) ?_
 refine gl_v rfl (o_move rfl) ?_
 refine gl_v rfl (o_move rfl) ?_
 refine gl_c rfl (o_call rfl (radd_spec i1 i2 j1 j2 w hw.ok hw.now id d) (by repeat (first | exact .nil | (apply Part.cons; · (repeat (first | exact .head | apply Sel.tail)))))) ?_
 rintro _ R ⟨_, ⟨i1', j1', i2', j2', rfl, rfl⟩, rfl⟩
 try simp only [List.cons_append, List.nil_append]
 refine gl_v rfl (o_move rfl) ?_
 refine gl_v rfl (o_extract rfl rfl) ?_
 refine gl_v rfl (o_extract rfl rfl) ?_
 refine gl_n rfl (o_alloc) ?_
 rintro _ _ ⟨b11, rfl, rfl⟩
 first | refine gl_u (o_storeSA rfl rfl rfl rfl (by simp; omega) (by simp)) ?_ | refine gl_u (o_storeA rfl rfl rfl rfl rfl) ?_
 refine gl_v rfl (o_assign rfl) ?_
 refine gl_nil ?_
 refine ge_then ?_
 refine g_seq ?_
 refine g_region ?_
 refine gl_v rfl (o_move rfl) ?_
 first | refine gl_v rfl (o_loadSA rfl rfl rfl) ?_ | refine gl_v rfl (o_loadA rfl rfl rfl) ?_
 refine gl_v rfl (o_nil rfl) ?_
 first | refine gl_v rfl (o_fldS rfl) ?_ | refine gl_v rfl (o_fld rfl) ?_
 first | refine gl_u (o_storeSA rfl rfl rfl rfl (by simp; omega) (by simp)) ?_ | refine gl_u (o_storeA rfl rfl rfl rfl rfl) ?_
 refine gl_nil ?_
 refine ge_then ?_
 refine g_seq ?_
 refine g_seq ?_
 refine g_region ?_
 refine gl_v rfl (o_move rfl) ?_
 refine gl_v rfl (o_is (c := true) (by simpa using he) (o_neq rfl rfl)) ?_
 refine gl_nil ?_
 refine ge_then ?_
 refine g_cond_true rfl ?_
 refine g_region ?_
 first | refine gl_v rfl (o_fldS rfl) ?_ | refine gl_v rfl (o_fld rfl) ?_
 first | refine gl_v rfl (o_load rfl rfl) ?_ | refine gl_v rfl (o_loadS rfl rfl) ?_ | refine gl_v rfl (o_loadC rfl) ?_
 refine gl_v rfl (o_move rfl) ?_
 refine gl_c rfl (o_call rfl (with_spec y.a2 y.k2 y.ref id hre) (by repeat (first | exact .nil | (apply Part.cons; · (repeat (first | exact .head | apply Sel.tail)))))) ?_
 rintro _ R ⟨_, ⟨a2', k2', rfl, rfl⟩, rfl⟩
 try simp only [List.cons_append, List.nil_append]
 first | refine gl_v rfl (o_fldS rfl) ?_ | refine gl_v rfl (o_fld rfl) ?_
 first | refine gl_u (o_store rfl rfl rfl rfl) ?_ | refine gl_u (o_storeS rfl rfl rfl (by first | assumption | omega | simp)) ?_
 refine gl_nil ?_
 refine ge_then ?_
 refine g_seq ?_
 refine g_region ?_
 first | refine gl_v rfl (o_loadSA rfl rfl rfl) ?_ | refine gl_v rfl (o_loadA rfl rfl rfl) ?_
 first | refine gl_u (o_storeSA rfl rfl rfl rfl (by simp; omega) (by simp)) ?_ | refine gl_u (o_storeA rfl rfl rfl rfl rfl) ?_
 refine gl_nil ?_
 refine ge_then ?_
 refine g_ret ?_
 refine ret1c (.inl rfl) rfl rfl rfl rfl _ (⟨_, _, _, _, _, _, a2', k2', rfl, rfl⟩) (To.sat (by repeat (first | exact .nil | exact .done .refl | (apply To.cons; · (repeat (first | exact .head | apply Sel.tail))) | exact .done (by repeat (first | exact .refl | apply Drop.skip)))))

set_option maxRecDepth 8000 in
set_option maxHeartbeats 1000000 in
theorem rasked_add (c : Nat) (B : CB) (w : Wh) (hw : WI w) (i1 : Option Addr) (j1 : Nat) (i2 : Option Addr) (j2 : Nat) (y : RK) (hcu : y.cut.length ≤ 1000) (hre : y.ref.length ≤ 1000) (id d : Int) (hd : 0 ≤ d ∧ d ≤ 4095) (h : d ≠ 0) (he : addE w id d = 0) : FnS Tryz.prog 61 [ptr c 0, .agg ([I64 (y.kind), I64 (y.pk), U64 (y.v), tl y.a y.c y.l, I64 (y.taken), .bool (y.last), .bool (y.over), I64 (y.out), U64 (y.val), tl y.a0 y.k0 y.due, tl y.a1 y.k1 y.cut, tl y.a2 y.k2 y.ref]).toArray, U64 id, I64 d] [cel c 49 [I64 B.b, I64 B.n, I64 w.now, .slice i1 w.T.length j1, .slice i2 w.T.length j2], idO i1 j1 w.T.length w.T, duO i2 j2 w.T.length w.T, tlA y.a1 y.k1 y.cut, tlA y.a2 y.k2 y.ref] (fun u Bs => ∃ i1' j1' i2' j2' a1' k1' a2' k2', u = .agg ([I64 (y.kind), I64 (y.pk), U64 (y.v), tl y.a y.c y.l, I64 (y.taken), .bool (y.last), .bool (y.over), I64 (y.out), U64 (y.val), tl y.a0 y.k0 y.due, tl a1' k1' y.cut, tl a2' k2' y.ref]).toArray ∧ Bs = [cel c 49 [I64 B.b, I64 B.n, I64 (addR w id d).now, .slice i1' (addR w id d).T.length j1', .slice i2' (addR w id d).T.length j2'], idO i1' j1' (addR w id d).T.length (addR w id d).T, duO i2' j2' (addR w id d).T.length (addR w id d).T, tlA a1' k1' y.cut, tlA a2' k2' y.ref]) := by
 refine fn_body Tryz.func61 rfl rfl rfl ?_
 intro W0 R
 simp only [List.zipIdx_cons, List.zipIdx_nil, List.map_cons, List.map_nil, Nat.zero_add, Nat.reduceAdd, List.cons_append, List.nil_append]
 refine g_seq ?_
 refine g_region ?_
 refine gl_n rfl (o_boxA rfl) ?_
 rintro _ _ ⟨b5, rfl, rfl⟩
 refine gl_n rfl (o_alloc) ?_
 rintro _ _ ⟨b8, rfl, rfl⟩
 refine gl_nil ?_
 refine ge_then ?_
 refine g_seq ?_
 refine g_seq ?_
 refine g_region ?_
 refine gl_v rfl (o_move rfl) ?_
 refine gl_v rfl (o_is (c := false) (by exact decide_eq_false (by omega)) (o_eql rfl rfl)) ?_
 refine gl_nil ?_
 refine ge_then ?_
 refine g_cond_false rfl ?_
 refine g_skip ?_
 refine ge_then ?_
 refine g_seq ?_
 refine g_region ?_
 refine gl_v rfl (o_move rfl) ?_
 refine gl_v rfl (o_nil rfl) ?_
 first | refine gl_v rfl (o_fldS rfl) ?_ | refine gl_v rfl (o_fld rfl) ?_
 first | refine gl_v rfl (o_loadSA rfl rfl rfl) ?_ | refine gl_v rfl (o_loadA rfl rfl rfl) ?_
 refine gl_v rfl (o_move rfl) ?_
 refine gl_v rfl (o_move rfl) ?_
 refine gl_c rfl (o_call rfl (radd_spec i1 i2 j1 j2 w hw.ok hw.now id d) (by repeat (first | exact .nil | (apply Part.cons; · (repeat (first | exact .head | apply Sel.tail)))))) ?_
 rintro _ R ⟨_, ⟨i1', j1', i2', j2', rfl, rfl⟩, rfl⟩
 try simp only [List.cons_append, List.nil_append]
 refine gl_v rfl (o_move rfl) ?_
 refine gl_v rfl (o_extract rfl rfl) ?_
 refine gl_v rfl (o_extract rfl rfl) ?_
 refine gl_n rfl (o_alloc) ?_
 rintro _ _ ⟨b11, rfl, rfl⟩
 first | refine gl_u (o_storeSA rfl rfl rfl rfl (by simp; omega) (by simp)) ?_ | refine gl_u (o_storeA rfl rfl rfl rfl rfl) ?_
 refine gl_v rfl (o_assign rfl) ?_
 refine gl_nil ?_
 refine ge_then ?_
 refine g_seq ?_
 refine g_region ?_
 refine gl_v rfl (o_move rfl) ?_
 first | refine gl_v rfl (o_loadSA rfl rfl rfl) ?_ | refine gl_v rfl (o_loadA rfl rfl rfl) ?_
 refine gl_v rfl (o_nil rfl) ?_
 first | refine gl_v rfl (o_fldS rfl) ?_ | refine gl_v rfl (o_fld rfl) ?_
 first | refine gl_u (o_storeSA rfl rfl rfl rfl (by simp; omega) (by simp)) ?_ | refine gl_u (o_storeA rfl rfl rfl rfl rfl) ?_
 refine gl_nil ?_
 refine ge_then ?_
 refine g_seq ?_
 refine g_seq ?_
 refine g_region ?_
 refine gl_v rfl (o_move rfl) ?_
 refine gl_v rfl (o_is (c := false) (by simpa using he) (o_neq rfl rfl)) ?_
 refine gl_nil ?_
 refine ge_then ?_
 refine g_cond_false rfl ?_
 refine g_skip ?_
 refine ge_then ?_
 refine g_seq ?_
 refine g_region ?_
 first | refine gl_v rfl (o_loadSA rfl rfl rfl) ?_ | refine gl_v rfl (o_loadA rfl rfl rfl) ?_
 first | refine gl_u (o_storeSA rfl rfl rfl rfl (by simp; omega) (by simp)) ?_ | refine gl_u (o_storeA rfl rfl rfl rfl rfl) ?_
 refine gl_nil ?_
 refine ge_then ?_
 refine g_ret ?_
 refine ret1c (.inl rfl) rfl rfl rfl rfl _ (⟨_, _, _, _, _, _, _, _, rfl, rfl⟩) (To.sat (by repeat (first | exact .nil | exact .done .refl | (apply To.cons; · (repeat (first | exact .head | apply Sel.tail))) | exact .done (by repeat (first | exact .refl | apply Drop.skip)))))

set_option maxRecDepth 8000 in
set_option maxHeartbeats 1000000 in
theorem rasked_cut (c : Nat) (B : CB) (w : Wh) (hw : WI w) (i1 : Option Addr) (j1 : Nat) (i2 : Option Addr) (j2 : Nat) (y : RK) (hcu : y.cut.length ≤ 1000) (hre : y.ref.length ≤ 1000) (id d : Int) (hd : 0 ≤ d ∧ d ≤ 4095) (h : d = 0) (he : (w.get id).isSome = true) : FnS Tryz.prog 61 [ptr c 0, .agg ([I64 (y.kind), I64 (y.pk), U64 (y.v), tl y.a y.c y.l, I64 (y.taken), .bool (y.last), .bool (y.over), I64 (y.out), U64 (y.val), tl y.a0 y.k0 y.due, tl y.a1 y.k1 y.cut, tl y.a2 y.k2 y.ref]).toArray, U64 id, I64 d] [cel c 49 [I64 B.b, I64 B.n, I64 w.now, .slice i1 w.T.length j1, .slice i2 w.T.length j2], idO i1 j1 w.T.length w.T, duO i2 j2 w.T.length w.T, tlA y.a1 y.k1 y.cut, tlA y.a2 y.k2 y.ref] (fun u Bs => ∃ i1' j1' i2' j2' a1' k1' a2' k2', u = .agg ([I64 (y.kind), I64 (y.pk), U64 (y.v), tl y.a y.c y.l, I64 (y.taken), .bool (y.last), .bool (y.over), I64 (y.out), U64 (y.val), tl y.a0 y.k0 y.due, tl a1' k1' (y.cut ++ [id]), tl a2' k2' y.ref]).toArray ∧ Bs = [cel c 49 [I64 B.b, I64 B.n, I64 (cutR w id).now, .slice i1' (cutR w id).T.length j1', .slice i2' (cutR w id).T.length j2'], idO i1' j1' (cutR w id).T.length (cutR w id).T, duO i2' j2' (cutR w id).T.length (cutR w id).T, tlA a1' k1' (y.cut ++ [id]), tlA a2' k2' y.ref]) := by
 refine fn_body Tryz.func61 rfl rfl rfl ?_
 intro W0 R
 simp only [List.zipIdx_cons, List.zipIdx_nil, List.map_cons, List.map_nil, Nat.zero_add, Nat.reduceAdd, List.cons_append, List.nil_append]
 refine g_seq ?_
 refine g_region ?_
 refine gl_n rfl (o_boxA rfl) ?_
 rintro _ _ ⟨b5, rfl, rfl⟩
 refine gl_n rfl (o_alloc) ?_
 rintro _ _ ⟨b8, rfl, rfl⟩
 refine gl_nil ?_
 refine ge_then ?_
 refine g_seq ?_
 refine g_seq ?_
 refine g_region ?_
 refine gl_v rfl (o_move rfl) ?_
 refine gl_v rfl (o_is (c := true) (by exact decide_eq_true (by omega)) (o_eql rfl rfl)) ?_
 refine gl_nil ?_
 refine ge_then ?_
 refine g_cond_true rfl ?_
 refine g_seq ?_
 refine g_region ?_
 refine gl_v rfl (o_move rfl) ?_
 refine gl_v rfl (o_nil rfl) ?_
 first | refine gl_v rfl (o_fldS rfl) ?_ | refine gl_v rfl (o_fld rfl) ?_
 first | refine gl_v rfl (o_loadSA rfl rfl rfl) ?_ | refine gl_v rfl (o_loadA rfl rfl rfl) ?_
 refine gl_v rfl (o_move rfl) ?_
 refine gl_c rfl (o_call rfl (rcut_spec i1 i2 j1 j2 w hw.ok hw.now id) (by repeat (first | exact .nil | (apply Part.cons; · (repeat (first | exact .head | apply Sel.tail)))))) ?_
 rintro _ R ⟨_, ⟨i1', j1', i2', j2', rfl, rfl⟩, rfl⟩
 try simp only [List.cons_append, List.nil_append]
 refine gl_v rfl (o_move rfl) ?_
 refine gl_v rfl (o_extract rfl rfl) ?_
 refine gl_v rfl (o_extract rfl rfl) ?_
 refine gl_n rfl (o_alloc) ?_
 rintro _ _ ⟨b9, rfl, rfl⟩
 first | refine gl_u (o_storeSA rfl rfl rfl rfl (by simp; omega) (by simp)) ?_ | refine gl_u (o_storeA rfl rfl rfl rfl rfl) ?_
 refine gl_v rfl (o_assign rfl) ?_
 refine gl_nil ?_
 refine ge_then ?_
 refine g_seq ?_
 refine g_region ?_
 refine gl_v rfl (o_move rfl) ?_
 first | refine gl_v rfl (o_loadSA rfl rfl rfl) ?_ | refine gl_v rfl (o_loadA rfl rfl rfl) ?_
 refine gl_v rfl (o_nil rfl) ?_
 first | refine gl_v rfl (o_fldS rfl) ?_ | refine gl_v rfl (o_fld rfl) ?_
 first | refine gl_u (o_storeSA rfl rfl rfl rfl (by simp; omega) (by simp)) ?_ | refine gl_u (o_storeA rfl rfl rfl rfl rfl) ?_
 refine gl_nil ?_
 refine ge_then ?_
 refine g_seq ?_
 refine g_seq ?_
 refine g_region ?_
 refine gl_v rfl (o_move rfl) ?_
 refine gl_nil ?_
 refine ge_then ?_
 refine g_cond_true (by show some (Value.bool (w.get id).isSome) = _; rw [he]) ?_
 refine g_region ?_
 first | refine gl_v rfl (o_fldS rfl) ?_ | refine gl_v rfl (o_fld rfl) ?_
 first | refine gl_v rfl (o_load rfl rfl) ?_ | refine gl_v rfl (o_loadS rfl rfl) ?_ | refine gl_v rfl (o_loadC rfl) ?_
 refine gl_v rfl (o_move rfl) ?_
 refine gl_c rfl (o_call rfl (with_spec y.a1 y.k1 y.cut id hcu) (by repeat (first | exact .nil | (apply Part.cons; · (repeat (first | exact .head | apply Sel.tail)))))) ?_
 rintro _ R ⟨_, ⟨a1', k1', rfl, rfl⟩, rfl⟩
 try simp only [List.cons_append, List.nil_append]
 first | refine gl_v rfl (o_fldS rfl) ?_ | refine gl_v rfl (o_fld rfl) ?_
 first | refine gl_u (o_store rfl rfl rfl rfl) ?_ | refine gl_u (o_storeS rfl rfl rfl (by first | assumption | omega | simp)) ?_
 refine gl_nil ?_
 refine ge_then ?_
 refine g_seq ?_
 refine g_region ?_
 first | refine gl_v rfl (o_loadSA rfl rfl rfl) ?_ | refine gl_v rfl (o_loadA rfl rfl rfl) ?_
 first | refine gl_u (o_storeSA rfl rfl rfl rfl (by simp; omega) (by simp)) ?_ | refine gl_u (o_storeA rfl rfl rfl rfl rfl) ?_
 refine gl_nil ?_
 refine ge_then ?_
 refine g_ret ?_
 refine ge_then_ret ?_
 refine ret1c (.inl rfl) rfl rfl rfl rfl _ (⟨_, _, _, _, a1', k1', _, _, rfl, rfl⟩) (To.sat (by repeat (first | exact .nil | exact .done .refl | (apply To.cons; · (repeat (first | exact .head | apply Sel.tail))) | exact .done (by repeat (first | exact .refl | apply Drop.skip)))))

set_option maxRecDepth 8000 in
set_option maxHeartbeats 1000000 in
theorem rasked_not (c : Nat) (B : CB) (w : Wh) (hw : WI w) (i1 : Option Addr) (j1 : Nat) (i2 : Option Addr) (j2 : Nat) (y : RK) (hcu : y.cut.length ≤ 1000) (hre : y.ref.length ≤ 1000) (id d : Int) (hd : 0 ≤ d ∧ d ≤ 4095) (h : d = 0) (he : (w.get id).isSome = false) : FnS Tryz.prog 61 [ptr c 0, .agg ([I64 (y.kind), I64 (y.pk), U64 (y.v), tl y.a y.c y.l, I64 (y.taken), .bool (y.last), .bool (y.over), I64 (y.out), U64 (y.val), tl y.a0 y.k0 y.due, tl y.a1 y.k1 y.cut, tl y.a2 y.k2 y.ref]).toArray, U64 id, I64 d] [cel c 49 [I64 B.b, I64 B.n, I64 w.now, .slice i1 w.T.length j1, .slice i2 w.T.length j2], idO i1 j1 w.T.length w.T, duO i2 j2 w.T.length w.T, tlA y.a1 y.k1 y.cut, tlA y.a2 y.k2 y.ref] (fun u Bs => ∃ i1' j1' i2' j2' a1' k1' a2' k2', u = .agg ([I64 (y.kind), I64 (y.pk), U64 (y.v), tl y.a y.c y.l, I64 (y.taken), .bool (y.last), .bool (y.over), I64 (y.out), U64 (y.val), tl y.a0 y.k0 y.due, tl a1' k1' y.cut, tl a2' k2' y.ref]).toArray ∧ Bs = [cel c 49 [I64 B.b, I64 B.n, I64 (cutR w id).now, .slice i1' (cutR w id).T.length j1', .slice i2' (cutR w id).T.length j2'], idO i1' j1' (cutR w id).T.length (cutR w id).T, duO i2' j2' (cutR w id).T.length (cutR w id).T, tlA a1' k1' y.cut, tlA a2' k2' y.ref]) := by
 refine fn_body Tryz.func61 rfl rfl rfl ?_
 intro W0 R
 simp only [List.zipIdx_cons, List.zipIdx_nil, List.map_cons, List.map_nil, Nat.zero_add, Nat.reduceAdd, List.cons_append, List.nil_append]
 refine g_seq ?_
 refine g_region ?_
 refine gl_n rfl (o_boxA rfl) ?_
 rintro _ _ ⟨b5, rfl, rfl⟩
 refine gl_n rfl (o_alloc) ?_
 rintro _ _ ⟨b8, rfl, rfl⟩
 refine gl_nil ?_
 refine ge_then ?_
 refine g_seq ?_
 refine g_seq ?_
 refine g_region ?_
 refine gl_v rfl (o_move rfl) ?_
 refine gl_v rfl (o_is (c := true) (by exact decide_eq_true (by omega)) (o_eql rfl rfl)) ?_
 refine gl_nil ?_
 refine ge_then ?_
 refine g_cond_true rfl ?_
 refine g_seq ?_
 refine g_region ?_
 refine gl_v rfl (o_move rfl) ?_
 refine gl_v rfl (o_nil rfl) ?_
 first | refine gl_v rfl (o_fldS rfl) ?_ | refine gl_v rfl (o_fld rfl) ?_
 first | refine gl_v rfl (o_loadSA rfl rfl rfl) ?_ | refine gl_v rfl (o_loadA rfl rfl rfl) ?_
 refine gl_v rfl (o_move rfl) ?_
 refine gl_c rfl (o_call rfl (rcut_spec i1 i2 j1 j2 w hw.ok hw.now id) (by repeat (first | exact .nil | (apply Part.cons; · (repeat (first | exact .head | apply Sel.tail)))))) ?_
 rintro _ R ⟨_, ⟨i1', j1', i2', j2', rfl, rfl⟩, rfl⟩
 try simp only [List.cons_append, List.nil_append]
 refine gl_v rfl (o_move rfl) ?_
 refine gl_v rfl (o_extract rfl rfl) ?_
 refine gl_v rfl (o_extract rfl rfl) ?_
 refine gl_n rfl (o_alloc) ?_
 rintro _ _ ⟨b9, rfl, rfl⟩
 first | refine gl_u (o_storeSA rfl rfl rfl rfl (by simp; omega) (by simp)) ?_ | refine gl_u (o_storeA rfl rfl rfl rfl rfl) ?_
 refine gl_v rfl (o_assign rfl) ?_
 refine gl_nil ?_
 refine ge_then ?_
 refine g_seq ?_
 refine g_region ?_
 refine gl_v rfl (o_move rfl) ?_
 first | refine gl_v rfl (o_loadSA rfl rfl rfl) ?_ | refine gl_v rfl (o_loadA rfl rfl rfl) ?_
 refine gl_v rfl (o_nil rfl) ?_
 first | refine gl_v rfl (o_fldS rfl) ?_ | refine gl_v rfl (o_fld rfl) ?_
 first | refine gl_u (o_storeSA rfl rfl rfl rfl (by simp; omega) (by simp)) ?_ | refine gl_u (o_storeA rfl rfl rfl rfl rfl) ?_
 refine gl_nil ?_
 refine ge_then ?_
 refine g_seq ?_
 refine g_seq ?_
 refine g_region ?_
 refine gl_v rfl (o_move rfl) ?_
 refine gl_nil ?_
 refine ge_then ?_
 refine g_cond_false (by show some (Value.bool (w.get id).isSome) = _; rw [he]) ?_
 refine g_skip ?_
 refine ge_then ?_
 refine g_seq ?_
 refine g_region ?_
 first | refine gl_v rfl (o_loadSA rfl rfl rfl) ?_ | refine gl_v rfl (o_loadA rfl rfl rfl) ?_
 first | refine gl_u (o_storeSA rfl rfl rfl rfl (by simp; omega) (by simp)) ?_ | refine gl_u (o_storeA rfl rfl rfl rfl rfl) ?_
 refine gl_nil ?_
 refine ge_then ?_
 refine g_ret ?_
 refine ge_then_ret ?_
 refine ret1c (.inl rfl) rfl rfl rfl rfl _ (⟨_, _, _, _, _, _, _, _, rfl, rfl⟩) (To.sat (by repeat (first | exact .nil | exact .done .refl | (apply To.cons; · (repeat (first | exact .head | apply Sel.tail))) | exact .done (by repeat (first | exact .refl | apply Drop.skip)))))

theorem rasked_spec (c : Nat) (B : CB) (w : Wh) (hw : WI w) (i1 : Option Addr) (j1 : Nat) (i2 : Option Addr) (j2 : Nat) (y : RK) (hcu : y.cut.length ≤ 1000) (hre : y.ref.length ≤ 1000) (v : Int) (hv : 0 ≤ v) : FnS Tryz.prog 61 [ptr c 0, .agg ([I64 (y.kind), I64 (y.pk), U64 (y.v), tl y.a y.c y.l, I64 (y.taken), .bool (y.last), .bool (y.over), I64 (y.out), U64 (y.val), tl y.a0 y.k0 y.due, tl y.a1 y.k1 y.cut, tl y.a2 y.k2 y.ref]).toArray, U64 (v / 4096), I64 (v % 4096)] [cel c 49 [I64 B.b, I64 B.n, I64 w.now, .slice i1 w.T.length j1, .slice i2 w.T.length j2], idO i1 j1 w.T.length w.T, duO i2 j2 w.T.length w.T, tlA y.a1 y.k1 y.cut, tlA y.a2 y.k2 y.ref] (fun u Bs => ∃ i1' j1' i2' j2' a1' k1' a2' k2', u = .agg ([I64 (y.kind), I64 (y.pk), U64 (y.v), tl y.a y.c y.l, I64 (y.taken), .bool (y.last), .bool (y.over), I64 (y.out), U64 (y.val), tl y.a0 y.k0 y.due, tl a1' k1' (y.cut ++ askCut v w), tl a2' k2' (y.ref ++ askRef v w)]).toArray ∧ Bs = [cel c 49 [I64 B.b, I64 B.n, I64 (askW v w).now, .slice i1' (askW v w).T.length j1', .slice i2' (askW v w).T.length j2'], idO i1' j1' (askW v w).T.length (askW v w).T, duO i2' j2' (askW v w).T.length (askW v w).T, tlA a1' k1' (y.cut ++ askCut v w), tlA a2' k2' (y.ref ++ askRef v w)]) := by
  have hm : 0 ≤ v % 4096 ∧ v % 4096 ≤ 4095 := by omega
  unfold askW askCut askRef
  by_cases h : v % 4096 = 0
  · cases he : (w.get (v / 4096)).isSome with
    | true =>
      rw [if_pos h, if_pos ⟨h, rfl⟩, if_neg (fun g => g.1 h), List.append_nil]
      exact rasked_cut c B w hw i1 j1 i2 j2 y hcu hre _ _ hm h he
    | false =>
      rw [if_pos h, if_neg (fun g => by cases g.2), if_neg (fun g => g.1 h), List.append_nil, List.append_nil]
      exact rasked_not c B w hw i1 j1 i2 j2 y hcu hre _ _ hm h he
  · by_cases he : addE w (v / 4096) (v % 4096) = 0
    · rw [if_neg h, if_neg (fun g => h g.1), if_neg (fun g => g.2 he), List.append_nil, List.append_nil]
      exact rasked_add c B w hw i1 j1 i2 j2 y hcu hre _ _ hm h he
    · rw [if_neg h, if_neg (fun g => h g.1), if_pos ⟨h, he⟩, List.append_nil]
      exact rasked_ref c B w hw i1 j1 i2 j2 y hcu hre _ _ hm h he

set_option maxRecDepth 8000 in
set_option maxHeartbeats 1000000 in
theorem rbegin_1a (id d : Int) (hid : 0 ≤ id ∧ id ≤ 18446744073709551615) (hb : 1125899906842624 < id) : FnS Tryz.prog 36 [I64 1, U64 id, I64 d] [] (fun u Bs => u = .agg (kV (⟨1, 0, 0, none, 0, [], 0, false, true, 4, 0, none, 0, [], none, 0, [], none, 0, []⟩ : RK)).toArray ∧ Bs = [kA (⟨1, 0, 0, none, 0, [], 0, false, true, 4, 0, none, 0, [], none, 0, [], none, 0, []⟩ : RK)]) := by
 refine fn_body Tryz.func36 rfl rfl rfl ?_
 intro W0 R
 simp only [List.zipIdx_cons, List.zipIdx_nil, List.map_cons, List.map_nil, Nat.zero_add, Nat.reduceAdd, List.cons_append, List.nil_append]
 refine g_seq ?_
 refine g_region ?_
 refine gl_n rfl (o_alloc) ?_
 rintro _ _ ⟨b6, rfl, rfl⟩
 refine gl_nil ?_
 refine ge_then ?_
 refine g_seq ?_
 refine g_seq ?_
 refine g_region ?_
 refine gl_v rfl (o_move rfl) ?_
 refine gl_v rfl (o_is (c := true) (by first | rfl | exact decide_eq_true (by omega)) (o_eql rfl rfl)) ?_
 refine gl_v rfl (o_move rfl) ?_
 refine gl_gF rfl rfl rfl rfl ?_
 refine gl_gF rfl rfl rfl rfl ?_
 refine gl_v rfl (o_pickT rfl rfl rfl) ?_
 refine gl_v rfl (o_move rfl) ?_
 refine gl_gT rfl rfl rfl ?_
 refine gl_v rfl (o_move rfl) ?_
 refine gl_gT rfl rfl rfl ?_
 refine gl_v rfl (o_is (c := true) (by first | rfl | exact decide_eq_true (by omega)) (o_gtr rfl rfl)) ?_
 refine gl_v rfl (o_pickT rfl rfl rfl) ?_
 refine gl_v rfl (o_move rfl) ?_
 refine gl_gF rfl rfl rfl rfl ?_
 refine gl_gF rfl rfl rfl rfl ?_
 refine gl_gF rfl rfl rfl rfl ?_
 refine gl_gU rfl rfl rfl ?_
 refine gl_gU rfl rfl rfl ?_
 refine gl_gU rfl rfl rfl ?_
 refine gl_gU rfl rfl rfl ?_
 refine gl_gU rfl rfl rfl ?_
 refine gl_gU rfl rfl rfl ?_
 refine gl_gF rfl rfl rfl rfl ?_
 refine gl_v rfl (o_pickT rfl rfl rfl) ?_
 refine gl_nil ?_
 refine ge_then ?_
 refine g_cond_true rfl ?_
 refine g_seq ?_
 refine g_region ?_
 refine gl_v rfl (o_move rfl) ?_
 refine gl_v rfl (o_build rfl rfl) ?_
 first | refine gl_u (o_storeSA rfl rfl rfl rfl (by simp; omega) (by simp)) ?_ | refine gl_u (o_storeA rfl rfl rfl rfl rfl) ?_
 refine gl_nil ?_
 refine ge_then ?_
 refine g_ret ?_
 refine ge_then_ret ?_
 refine ret1c (.inl rfl) rfl rfl rfl rfl [kA (⟨1, 0, 0, none, 0, [], 0, false, true, 4, 0, none, 0, [], none, 0, [], none, 0, []⟩ : RK)] (⟨rfl, rfl⟩) (fun h s => kA_close (y := (⟨1, 0, 0, none, 0, [], 0, false, true, 4, 0, none, 0, [], none, 0, [], none, 0, []⟩ : RK)) (fun h s => own_nil0 h (own_nil0 h (own_nil0 h (own_nil0 h ((To.sat (by repeat (first | exact .nil | exact .done .refl | (apply To.cons; · (repeat (first | exact .head | apply Sel.tail))) | exact .done (by repeat (first | exact .refl | apply Drop.skip))))) h s))))) h s)

set_option maxRecDepth 8000 in
set_option maxHeartbeats 1000000 in
theorem rbegin_1b (id d : Int) (hid : 0 ≤ id ∧ id ≤ 18446744073709551615) (hb : id ≤ 1125899906842624) (hd : d < 1) : FnS Tryz.prog 36 [I64 1, U64 id, I64 d] [] (fun u Bs => u = .agg (kV (⟨1, 0, 0, none, 0, [], 0, false, true, 4, 0, none, 0, [], none, 0, [], none, 0, []⟩ : RK)).toArray ∧ Bs = [kA (⟨1, 0, 0, none, 0, [], 0, false, true, 4, 0, none, 0, [], none, 0, [], none, 0, []⟩ : RK)]) := by
 refine fn_body Tryz.func36 rfl rfl rfl ?_
 intro W0 R
 simp only [List.zipIdx_cons, List.zipIdx_nil, List.map_cons, List.map_nil, Nat.zero_add, Nat.reduceAdd, List.cons_append, List.nil_append]
 refine g_seq ?_
 refine g_region ?_
 refine gl_n rfl (o_alloc) ?_
 rintro _ _ ⟨b6, rfl, rfl⟩
 refine gl_nil ?_
 refine ge_then ?_
 refine g_seq ?_
 refine g_seq ?_
 refine g_region ?_
 refine gl_v rfl (o_move rfl) ?_
 refine gl_v rfl (o_is (c := true) (by first | rfl | exact decide_eq_true (by omega)) (o_eql rfl rfl)) ?_
 refine gl_v rfl (o_move rfl) ?_
 refine gl_gF rfl rfl rfl rfl ?_
 refine gl_gF rfl rfl rfl rfl ?_
 refine gl_v rfl (o_pickT rfl rfl rfl) ?_
 refine gl_v rfl (o_move rfl) ?_
 refine gl_gT rfl rfl rfl ?_
 refine gl_v rfl (o_move rfl) ?_
 refine gl_gT rfl rfl rfl ?_
 refine gl_v rfl (o_is (c := false) (by first | rfl | exact decide_eq_false (by omega)) (o_gtr rfl rfl)) ?_
 refine gl_v rfl (o_pickT rfl rfl rfl) ?_
 refine gl_v rfl (o_move rfl) ?_
 refine gl_gT rfl rfl rfl ?_
 refine gl_v rfl (o_move rfl) ?_
 refine gl_gT rfl rfl rfl ?_
 refine gl_v rfl (o_is (c := true) (by first | rfl | exact decide_eq_true (by omega)) (o_eql rfl rfl)) ?_
 refine gl_gT rfl rfl rfl ?_
 refine gl_v rfl (o_move rfl) ?_
 refine gl_gT rfl rfl rfl ?_
 refine gl_v rfl (o_move rfl) ?_
 refine gl_gT rfl rfl rfl ?_
 refine gl_v rfl (o_is (c := true) (by first | rfl | exact decide_eq_true (by omega)) (o_lss rfl rfl)) ?_
 refine gl_gT rfl rfl rfl ?_
 refine gl_v rfl (o_move rfl) ?_
 refine gl_gF rfl rfl rfl rfl ?_
 refine gl_gF rfl rfl rfl rfl ?_
 refine gl_gT rfl rfl rfl ?_
 refine gl_v rfl (o_pickT rfl rfl rfl) ?_
 refine gl_gT rfl rfl rfl ?_
 refine gl_v rfl (o_pickT rfl rfl rfl) ?_
 refine gl_v rfl (o_pickF rfl rfl rfl) ?_
 refine gl_nil ?_
 refine ge_then ?_
 refine g_cond_true rfl ?_
 refine g_seq ?_
 refine g_region ?_
 refine gl_v rfl (o_move rfl) ?_
 refine gl_v rfl (o_build rfl rfl) ?_
 first | refine gl_u (o_storeSA rfl rfl rfl rfl (by simp; omega) (by simp)) ?_ | refine gl_u (o_storeA rfl rfl rfl rfl rfl) ?_
 refine gl_nil ?_
 refine ge_then ?_
 refine g_ret ?_
 refine ge_then_ret ?_
 refine ret1c (.inl rfl) rfl rfl rfl rfl [kA (⟨1, 0, 0, none, 0, [], 0, false, true, 4, 0, none, 0, [], none, 0, [], none, 0, []⟩ : RK)] (⟨rfl, rfl⟩) (fun h s => kA_close (y := (⟨1, 0, 0, none, 0, [], 0, false, true, 4, 0, none, 0, [], none, 0, [], none, 0, []⟩ : RK)) (fun h s => own_nil0 h (own_nil0 h (own_nil0 h (own_nil0 h ((To.sat (by repeat (first | exact .nil | exact .done .refl | (apply To.cons; · (repeat (first | exact .head | apply Sel.tail))) | exact .done (by repeat (first | exact .refl | apply Drop.skip))))) h s))))) h s)

set_option maxRecDepth 8000 in
set_option maxHeartbeats 1000000 in
theorem rbegin_1c (id d : Int) (hid : 0 ≤ id ∧ id ≤ 18446744073709551615) (hb : id ≤ 1125899906842624) (hd : 4095 < d) : FnS Tryz.prog 36 [I64 1, U64 id, I64 d] [] (fun u Bs => u = .agg (kV (⟨1, 0, 0, none, 0, [], 0, false, true, 4, 0, none, 0, [], none, 0, [], none, 0, []⟩ : RK)).toArray ∧ Bs = [kA (⟨1, 0, 0, none, 0, [], 0, false, true, 4, 0, none, 0, [], none, 0, [], none, 0, []⟩ : RK)]) := by
 refine fn_body Tryz.func36 rfl rfl rfl ?_
 intro W0 R
 simp only [List.zipIdx_cons, List.zipIdx_nil, List.map_cons, List.map_nil, Nat.zero_add, Nat.reduceAdd, List.cons_append, List.nil_append]
 refine g_seq ?_
 refine g_region ?_
 refine gl_n rfl (o_alloc) ?_
 rintro _ _ ⟨b6, rfl, rfl⟩
 refine gl_nil ?_
 refine ge_then ?_
 refine g_seq ?_
 refine g_seq ?_
 refine g_region ?_
 refine gl_v rfl (o_move rfl) ?_
 refine gl_v rfl (o_is (c := true) (by first | rfl | exact decide_eq_true (by omega)) (o_eql rfl rfl)) ?_
 refine gl_v rfl (o_move rfl) ?_
 refine gl_gF rfl rfl rfl rfl ?_
 refine gl_gF rfl rfl rfl rfl ?_
 refine gl_v rfl (o_pickT rfl rfl rfl) ?_
 refine gl_v rfl (o_move rfl) ?_
 refine gl_gT rfl rfl rfl ?_
 refine gl_v rfl (o_move rfl) ?_
 refine gl_gT rfl rfl rfl ?_
 refine gl_v rfl (o_is (c := false) (by first | rfl | exact decide_eq_false (by omega)) (o_gtr rfl rfl)) ?_
 refine gl_v rfl (o_pickT rfl rfl rfl) ?_
 refine gl_v rfl (o_move rfl) ?_
 refine gl_gT rfl rfl rfl ?_
 refine gl_v rfl (o_move rfl) ?_
 refine gl_gT rfl rfl rfl ?_
 refine gl_v rfl (o_is (c := true) (by first | rfl | exact decide_eq_true (by omega)) (o_eql rfl rfl)) ?_
 refine gl_gT rfl rfl rfl ?_
 refine gl_v rfl (o_move rfl) ?_
 refine gl_gT rfl rfl rfl ?_
 refine gl_v rfl (o_move rfl) ?_
 refine gl_gT rfl rfl rfl ?_
 refine gl_v rfl (o_is (c := false) (by first | rfl | exact decide_eq_false (by omega)) (o_lss rfl rfl)) ?_
 refine gl_gT rfl rfl rfl ?_
 refine gl_v rfl (o_move rfl) ?_
 refine gl_gT rfl rfl rfl ?_
 refine gl_v rfl (o_move rfl) ?_
 refine gl_gT rfl rfl rfl ?_
 refine gl_v rfl (o_is (c := true) (by first | rfl | exact decide_eq_true (by omega)) (o_gtr rfl rfl)) ?_
 refine gl_gT rfl rfl rfl ?_
 refine gl_v rfl (o_pickF rfl rfl rfl) ?_
 refine gl_gT rfl rfl rfl ?_
 refine gl_v rfl (o_pickT rfl rfl rfl) ?_
 refine gl_v rfl (o_pickF rfl rfl rfl) ?_
 refine gl_nil ?_
 refine ge_then ?_
 refine g_cond_true rfl ?_
 refine g_seq ?_
 refine g_region ?_
 refine gl_v rfl (o_move rfl) ?_
 refine gl_v rfl (o_build rfl rfl) ?_
 first | refine gl_u (o_storeSA rfl rfl rfl rfl (by simp; omega) (by simp)) ?_ | refine gl_u (o_storeA rfl rfl rfl rfl rfl) ?_
 refine gl_nil ?_
 refine ge_then ?_
 refine g_ret ?_
 refine ge_then_ret ?_
 refine ret1c (.inl rfl) rfl rfl rfl rfl [kA (⟨1, 0, 0, none, 0, [], 0, false, true, 4, 0, none, 0, [], none, 0, [], none, 0, []⟩ : RK)] (⟨rfl, rfl⟩) (fun h s => kA_close (y := (⟨1, 0, 0, none, 0, [], 0, false, true, 4, 0, none, 0, [], none, 0, [], none, 0, []⟩ : RK)) (fun h s => own_nil0 h (own_nil0 h (own_nil0 h (own_nil0 h ((To.sat (by repeat (first | exact .nil | exact .done .refl | (apply To.cons; · (repeat (first | exact .head | apply Sel.tail))) | exact .done (by repeat (first | exact .refl | apply Drop.skip))))) h s))))) h s)

set_option maxRecDepth 8000 in
set_option maxHeartbeats 1000000 in
theorem rbegin_1 (id d : Int) (hid : 0 ≤ id ∧ id ≤ 18446744073709551615) (hb : id ≤ 1125899906842624) (hd : 1 ≤ d ∧ d ≤ 4095) : FnS Tryz.prog 36 [I64 1, U64 id, I64 d] [] (fun u Bs => u = .agg (kV (⟨1, 1, id * 4096 + d, none, 0, [], 0, false, false, 0, 0, none, 0, [], none, 0, [], none, 0, []⟩ : RK)).toArray ∧ Bs = [kA (⟨1, 1, id * 4096 + d, none, 0, [], 0, false, false, 0, 0, none, 0, [], none, 0, [], none, 0, []⟩ : RK)]) := by
 refine fn_body Tryz.func36 rfl rfl rfl ?_
 intro W0 R
 simp only [List.zipIdx_cons, List.zipIdx_nil, List.map_cons, List.map_nil, Nat.zero_add, Nat.reduceAdd, List.cons_append, List.nil_append]
 refine g_seq ?_
 refine g_region ?_
 refine gl_n rfl (o_alloc) ?_
 rintro _ _ ⟨b6, rfl, rfl⟩
 refine gl_nil ?_
 refine ge_then ?_
 refine g_seq ?_
 refine g_seq ?_
 refine g_region ?_
 refine gl_v rfl (o_move rfl) ?_
 refine gl_v rfl (o_is (c := true) (by first | rfl | exact decide_eq_true (by omega)) (o_eql rfl rfl)) ?_
 refine gl_v rfl (o_move rfl) ?_
 refine gl_gF rfl rfl rfl rfl ?_
 refine gl_gF rfl rfl rfl rfl ?_
 refine gl_v rfl (o_pickT rfl rfl rfl) ?_
 refine gl_v rfl (o_move rfl) ?_
 refine gl_gT rfl rfl rfl ?_
 refine gl_v rfl (o_move rfl) ?_
 refine gl_gT rfl rfl rfl ?_
 refine gl_v rfl (o_is (c := false) (by first | rfl | exact decide_eq_false (by omega)) (o_gtr rfl rfl)) ?_
 refine gl_v rfl (o_pickT rfl rfl rfl) ?_
 refine gl_v rfl (o_move rfl) ?_
 refine gl_gT rfl rfl rfl ?_
 refine gl_v rfl (o_move rfl) ?_
 refine gl_gT rfl rfl rfl ?_
 refine gl_v rfl (o_is (c := true) (by first | rfl | exact decide_eq_true (by omega)) (o_eql rfl rfl)) ?_
 refine gl_gT rfl rfl rfl ?_
 refine gl_v rfl (o_move rfl) ?_
 refine gl_gT rfl rfl rfl ?_
 refine gl_v rfl (o_move rfl) ?_
 refine gl_gT rfl rfl rfl ?_
 refine gl_v rfl (o_is (c := false) (by first | rfl | exact decide_eq_false (by omega)) (o_lss rfl rfl)) ?_
 refine gl_gT rfl rfl rfl ?_
 refine gl_v rfl (o_move rfl) ?_
 refine gl_gT rfl rfl rfl ?_
 refine gl_v rfl (o_move rfl) ?_
 refine gl_gT rfl rfl rfl ?_
 refine gl_v rfl (o_is (c := false) (by first | rfl | exact decide_eq_false (by omega)) (o_gtr rfl rfl)) ?_
 refine gl_gT rfl rfl rfl ?_
 refine gl_v rfl (o_pickF rfl rfl rfl) ?_
 refine gl_gT rfl rfl rfl ?_
 refine gl_v rfl (o_pickT rfl rfl rfl) ?_
 refine gl_v rfl (o_pickF rfl rfl rfl) ?_
 refine gl_nil ?_
 refine ge_then ?_
 refine g_cond_false rfl ?_
 refine g_skip ?_
 refine ge_then ?_
 refine g_seq ?_
 refine g_seq ?_
 refine g_region ?_
 refine gl_v rfl (o_move rfl) ?_
 refine gl_v rfl (o_is (c := false) (by first | rfl | exact decide_eq_false (by omega)) (o_eql rfl rfl)) ?_
 refine gl_nil ?_
 refine ge_then ?_
 refine g_cond_false rfl ?_
 refine g_skip ?_
 refine ge_then ?_
 refine g_seq ?_
 refine g_region ?_
 refine gl_v rfl (o_move rfl) ?_
 refine gl_v rfl (o_build rfl rfl) ?_
 refine gl_n rfl (o_alloc) ?_
 rintro _ _ ⟨b7, rfl, rfl⟩
 first | refine gl_u (o_storeSA rfl rfl rfl rfl (by simp; omega) (by simp)) ?_ | refine gl_u (o_storeA rfl rfl rfl rfl rfl) ?_
 refine gl_nil ?_
 refine ge_then ?_
 refine g_seq ?_
 refine g_seq ?_
 refine g_region ?_
 refine gl_v rfl (o_move rfl) ?_
 refine gl_nil ?_
 refine ge_then ?_
 refine g_block ?_
 refine g_seq ?_
 refine g_seq ?_
 refine g_region ?_
 refine gl_v rfl (o_is (c := true) (by first | rfl | exact decide_eq_true (by omega)) (o_eql rfl rfl)) ?_
 refine gl_v rfl (o_assign rfl) ?_
 refine gl_nil ?_
 refine ge_then ?_
 refine g_cond_true rfl ?_
 refine g_skip ?_
 refine ge_then ?_
 refine g_cond_true rfl ?_
 refine g_region ?_
 refine gl_v rfl (o_move rfl) ?_
 refine gl_v rfl (o_mulR (id * 4096) (wr_u64 (by omega)) rfl rfl) ?_
 refine gl_v rfl (o_move rfl) ?_
 refine gl_v rfl (o_convR d (wr_u64 (by omega)) rfl) ?_
 refine gl_v rfl (o_addR (id * 4096 + d) (wr_u64 (by omega)) rfl rfl) ?_
 refine gl_v rfl (o_build rfl rfl) ?_
 first | refine gl_v rfl (o_fldS rfl) ?_ | refine gl_v rfl (o_fld rfl) ?_
 first | refine gl_u (o_storeSA rfl rfl rfl rfl (by simp; omega) (by simp)) ?_ | refine gl_u (o_storeA rfl rfl rfl rfl rfl) ?_
 refine gl_nil ?_
 refine ge_block ?_
 refine ge_then ?_
 refine g_seq ?_
 refine g_region ?_
 first | refine gl_v rfl (o_loadSA rfl rfl rfl) ?_ | refine gl_v rfl (o_loadA rfl rfl rfl) ?_
 first | refine gl_u (o_storeSA rfl rfl rfl rfl (by simp; omega) (by simp)) ?_ | refine gl_u (o_storeA rfl rfl rfl rfl rfl) ?_
 refine gl_nil ?_
 refine ge_then ?_
 refine g_ret ?_
 refine ret1c (.inl rfl) rfl rfl rfl rfl [kA (⟨1, 1, id * 4096 + d, none, 0, [], 0, false, false, 0, 0, none, 0, [], none, 0, [], none, 0, []⟩ : RK)] (⟨rfl, rfl⟩) (fun h s => kA_close (y := (⟨1, 1, id * 4096 + d, none, 0, [], 0, false, false, 0, 0, none, 0, [], none, 0, [], none, 0, []⟩ : RK)) (fun h s => own_nil0 h (own_nil0 h (own_nil0 h (own_nil0 h ((To.sat (by repeat (first | exact .nil | exact .done .refl | (apply To.cons; · (repeat (first | exact .head | apply Sel.tail))) | exact .done (by repeat (first | exact .refl | apply Drop.skip))))) h s))))) h s)

set_option maxRecDepth 8000 in
set_option maxHeartbeats 1000000 in
theorem rbegin_2a (id d : Int) (hid : 0 ≤ id ∧ id ≤ 18446744073709551615) (hb : 1125899906842624 < id) : FnS Tryz.prog 36 [I64 2, U64 id, I64 d] [] (fun u Bs => u = .agg (kV (⟨2, 0, 0, none, 0, [], 0, false, true, 4, 0, none, 0, [], none, 0, [], none, 0, []⟩ : RK)).toArray ∧ Bs = [kA (⟨2, 0, 0, none, 0, [], 0, false, true, 4, 0, none, 0, [], none, 0, [], none, 0, []⟩ : RK)]) := by
 refine fn_body Tryz.func36 rfl rfl rfl ?_
 intro W0 R
 simp only [List.zipIdx_cons, List.zipIdx_nil, List.map_cons, List.map_nil, Nat.zero_add, Nat.reduceAdd, List.cons_append, List.nil_append]
 refine g_seq ?_
 refine g_region ?_
 refine gl_n rfl (o_alloc) ?_
 rintro _ _ ⟨b6, rfl, rfl⟩
 refine gl_nil ?_
 refine ge_then ?_
 refine g_seq ?_
 refine g_seq ?_
 refine g_region ?_
 refine gl_v rfl (o_move rfl) ?_
 refine gl_v rfl (o_is (c := false) (by first | rfl | exact decide_eq_false (by omega)) (o_eql rfl rfl)) ?_
 refine gl_v rfl (o_move rfl) ?_
 refine gl_gT rfl rfl rfl ?_
 refine gl_v rfl (o_move rfl) ?_
 refine gl_gT rfl rfl rfl ?_
 refine gl_v rfl (o_is (c := true) (by first | rfl | exact decide_eq_true (by omega)) (o_eql rfl rfl)) ?_
 refine gl_v rfl (o_pickF rfl rfl rfl) ?_
 refine gl_v rfl (o_move rfl) ?_
 refine gl_gT rfl rfl rfl ?_
 refine gl_v rfl (o_move rfl) ?_
 refine gl_gT rfl rfl rfl ?_
 refine gl_v rfl (o_is (c := true) (by first | rfl | exact decide_eq_true (by omega)) (o_gtr rfl rfl)) ?_
 refine gl_v rfl (o_pickT rfl rfl rfl) ?_
 refine gl_v rfl (o_move rfl) ?_
 refine gl_gF rfl rfl rfl rfl ?_
 refine gl_gF rfl rfl rfl rfl ?_
 refine gl_gF rfl rfl rfl rfl ?_
 refine gl_gU rfl rfl rfl ?_
 refine gl_gU rfl rfl rfl ?_
 refine gl_gU rfl rfl rfl ?_
 refine gl_gU rfl rfl rfl ?_
 refine gl_gU rfl rfl rfl ?_
 refine gl_gU rfl rfl rfl ?_
 refine gl_gF rfl rfl rfl rfl ?_
 refine gl_v rfl (o_pickT rfl rfl rfl) ?_
 refine gl_nil ?_
 refine ge_then ?_
 refine g_cond_true rfl ?_
 refine g_seq ?_
 refine g_region ?_
 refine gl_v rfl (o_move rfl) ?_
 refine gl_v rfl (o_build rfl rfl) ?_
 first | refine gl_u (o_storeSA rfl rfl rfl rfl (by simp; omega) (by simp)) ?_ | refine gl_u (o_storeA rfl rfl rfl rfl rfl) ?_
 refine gl_nil ?_
 refine ge_then ?_
 refine g_ret ?_
 refine ge_then_ret ?_
 refine ret1c (.inl rfl) rfl rfl rfl rfl [kA (⟨2, 0, 0, none, 0, [], 0, false, true, 4, 0, none, 0, [], none, 0, [], none, 0, []⟩ : RK)] (⟨rfl, rfl⟩) (fun h s => kA_close (y := (⟨2, 0, 0, none, 0, [], 0, false, true, 4, 0, none, 0, [], none, 0, [], none, 0, []⟩ : RK)) (fun h s => own_nil0 h (own_nil0 h (own_nil0 h (own_nil0 h ((To.sat (by repeat (first | exact .nil | exact .done .refl | (apply To.cons; · (repeat (first | exact .head | apply Sel.tail))) | exact .done (by repeat (first | exact .refl | apply Drop.skip))))) h s))))) h s)

set_option maxRecDepth 8000 in
set_option maxHeartbeats 1000000 in
theorem rbegin_2 (id d : Int) (hid : 0 ≤ id ∧ id ≤ 18446744073709551615) (hb : id ≤ 1125899906842624) : FnS Tryz.prog 36 [I64 2, U64 id, I64 d] [] (fun u Bs => u = .agg (kV (⟨2, 1, id * 4096, none, 0, [], 0, false, false, 0, 0, none, 0, [], none, 0, [], none, 0, []⟩ : RK)).toArray ∧ Bs = [kA (⟨2, 1, id * 4096, none, 0, [], 0, false, false, 0, 0, none, 0, [], none, 0, [], none, 0, []⟩ : RK)]) := by
 refine fn_body Tryz.func36 rfl rfl rfl ?_
 intro W0 R
 simp only [List.zipIdx_cons, List.zipIdx_nil, List.map_cons, List.map_nil, Nat.zero_add, Nat.reduceAdd, List.cons_append, List.nil_append]
 refine g_seq ?_
 refine g_region ?_
 refine gl_n rfl (o_alloc) ?_
 rintro _ _ ⟨b6, rfl, rfl⟩
 refine gl_nil ?_
 refine ge_then ?_
 refine g_seq ?_
 refine g_seq ?_
 refine g_region ?_
 refine gl_v rfl (o_move rfl) ?_
 refine gl_v rfl (o_is (c := false) (by first | rfl | exact decide_eq_false (by omega)) (o_eql rfl rfl)) ?_
 refine gl_v rfl (o_move rfl) ?_
 refine gl_gT rfl rfl rfl ?_
 refine gl_v rfl (o_move rfl) ?_
 refine gl_gT rfl rfl rfl ?_
 refine gl_v rfl (o_is (c := true) (by first | rfl | exact decide_eq_true (by omega)) (o_eql rfl rfl)) ?_
 refine gl_v rfl (o_pickF rfl rfl rfl) ?_
 refine gl_v rfl (o_move rfl) ?_
 refine gl_gT rfl rfl rfl ?_
 refine gl_v rfl (o_move rfl) ?_
 refine gl_gT rfl rfl rfl ?_
 refine gl_v rfl (o_is (c := false) (by first | rfl | exact decide_eq_false (by omega)) (o_gtr rfl rfl)) ?_
 refine gl_v rfl (o_pickT rfl rfl rfl) ?_
 refine gl_v rfl (o_move rfl) ?_
 refine gl_gT rfl rfl rfl ?_
 refine gl_v rfl (o_move rfl) ?_
 refine gl_gT rfl rfl rfl ?_
 refine gl_v rfl (o_is (c := false) (by first | rfl | exact decide_eq_false (by omega)) (o_eql rfl rfl)) ?_
 refine gl_gT rfl rfl rfl ?_
 refine gl_v rfl (o_move rfl) ?_
 refine gl_gF rfl rfl rfl rfl ?_
 refine gl_gF rfl rfl rfl rfl ?_
 refine gl_gF rfl rfl rfl rfl ?_
 refine gl_gU rfl rfl rfl ?_
 refine gl_gU rfl rfl rfl ?_
 refine gl_gF rfl rfl rfl rfl ?_
 refine gl_gT rfl rfl rfl ?_
 refine gl_v rfl (o_pickF rfl rfl rfl) ?_
 refine gl_v rfl (o_pickF rfl rfl rfl) ?_
 refine gl_nil ?_
 refine ge_then ?_
 refine g_cond_false rfl ?_
 refine g_skip ?_
 refine ge_then ?_
 refine g_seq ?_
 refine g_seq ?_
 refine g_region ?_
 refine gl_v rfl (o_move rfl) ?_
 refine gl_v rfl (o_is (c := true) (by first | rfl | exact decide_eq_true (by omega)) (o_eql rfl rfl)) ?_
 refine gl_nil ?_
 refine ge_then ?_
 refine g_cond_true rfl ?_
 refine g_region ?_
 refine gl_v rfl (o_assign rfl) ?_
 refine gl_nil ?_
 refine ge_then ?_
 refine g_seq ?_
 refine g_region ?_
 refine gl_v rfl (o_move rfl) ?_
 refine gl_v rfl (o_build rfl rfl) ?_
 refine gl_n rfl (o_alloc) ?_
 rintro _ _ ⟨b7, rfl, rfl⟩
 first | refine gl_u (o_storeSA rfl rfl rfl rfl (by simp; omega) (by simp)) ?_ | refine gl_u (o_storeA rfl rfl rfl rfl rfl) ?_
 refine gl_nil ?_
 refine ge_then ?_
 refine g_seq ?_
 refine g_seq ?_
 refine g_region ?_
 refine gl_v rfl (o_move rfl) ?_
 refine gl_nil ?_
 refine ge_then ?_
 refine g_block ?_
 refine g_seq ?_
 refine g_seq ?_
 refine g_region ?_
 refine gl_v rfl (o_is (c := false) (by first | rfl | exact decide_eq_false (by omega)) (o_eql rfl rfl)) ?_
 refine gl_v rfl (o_assign rfl) ?_
 refine gl_nil ?_
 refine ge_then ?_
 refine g_cond_false rfl ?_
 refine g_region ?_
 refine gl_v rfl (o_is (c := true) (by first | rfl | exact decide_eq_true (by omega)) (o_eql rfl rfl)) ?_
 refine gl_v rfl (o_assign rfl) ?_
 refine gl_nil ?_
 refine ge_then ?_
 refine g_cond_true rfl ?_
 refine g_region ?_
 refine gl_v rfl (o_move rfl) ?_
 refine gl_v rfl (o_mulR (id * 4096) (wr_u64 (by omega)) rfl rfl) ?_
 refine gl_v rfl (o_move rfl) ?_
 refine gl_v rfl (o_convR 0 (wr_u64 (by omega)) rfl) ?_
 refine gl_v rfl (o_addR (id * 4096) (by rw [wr_u64 (by omega)]; omega) rfl rfl) ?_
 refine gl_v rfl (o_build rfl rfl) ?_
 first | refine gl_v rfl (o_fldS rfl) ?_ | refine gl_v rfl (o_fld rfl) ?_
 first | refine gl_u (o_storeSA rfl rfl rfl rfl (by simp; omega) (by simp)) ?_ | refine gl_u (o_storeA rfl rfl rfl rfl rfl) ?_
 refine gl_nil ?_
 refine ge_block ?_
 refine ge_then ?_
 refine g_seq ?_
 refine g_region ?_
 first | refine gl_v rfl (o_loadSA rfl rfl rfl) ?_ | refine gl_v rfl (o_loadA rfl rfl rfl) ?_
 first | refine gl_u (o_storeSA rfl rfl rfl rfl (by simp; omega) (by simp)) ?_ | refine gl_u (o_storeA rfl rfl rfl rfl rfl) ?_
 refine gl_nil ?_
 refine ge_then ?_
 refine g_ret ?_
 refine ret1c (.inl rfl) rfl rfl rfl rfl [kA (⟨2, 1, id * 4096, none, 0, [], 0, false, false, 0, 0, none, 0, [], none, 0, [], none, 0, []⟩ : RK)] (⟨rfl, rfl⟩) (fun h s => kA_close (y := (⟨2, 1, id * 4096, none, 0, [], 0, false, false, 0, 0, none, 0, [], none, 0, [], none, 0, []⟩ : RK)) (fun h s => own_nil0 h (own_nil0 h (own_nil0 h (own_nil0 h ((To.sat (by repeat (first | exact .nil | exact .done .refl | (apply To.cons; · (repeat (first | exact .head | apply Sel.tail))) | exact .done (by repeat (first | exact .refl | apply Drop.skip))))) h s))))) h s)

set_option maxRecDepth 8000 in
set_option maxHeartbeats 1000000 in
theorem rbegin_3 (id d : Int) (hid : 0 ≤ id ∧ id ≤ 18446744073709551615)  : FnS Tryz.prog 36 [I64 3, U64 id, I64 d] [] (fun u Bs => u = .agg (kV (⟨3, 2, 0, none, 0, [], 0, false, false, 0, 0, none, 0, [], none, 0, [], none, 0, []⟩ : RK)).toArray ∧ Bs = [kA (⟨3, 2, 0, none, 0, [], 0, false, false, 0, 0, none, 0, [], none, 0, [], none, 0, []⟩ : RK)]) := by
 refine fn_body Tryz.func36 rfl rfl rfl ?_
 intro W0 R
 simp only [List.zipIdx_cons, List.zipIdx_nil, List.map_cons, List.map_nil, Nat.zero_add, Nat.reduceAdd, List.cons_append, List.nil_append]
 refine g_seq ?_
 refine g_region ?_
 refine gl_n rfl (o_alloc) ?_
 rintro _ _ ⟨b6, rfl, rfl⟩
 refine gl_nil ?_
 refine ge_then ?_
 refine g_seq ?_
 refine g_seq ?_
 refine g_region ?_
 refine gl_v rfl (o_move rfl) ?_
 refine gl_v rfl (o_is (c := false) (by first | rfl | exact decide_eq_false (by omega)) (o_eql rfl rfl)) ?_
 refine gl_v rfl (o_move rfl) ?_
 refine gl_gT rfl rfl rfl ?_
 refine gl_v rfl (o_move rfl) ?_
 refine gl_gT rfl rfl rfl ?_
 refine gl_v rfl (o_is (c := false) (by first | rfl | exact decide_eq_false (by omega)) (o_eql rfl rfl)) ?_
 refine gl_v rfl (o_pickF rfl rfl rfl) ?_
 refine gl_v rfl (o_move rfl) ?_
 refine gl_gF rfl rfl rfl rfl ?_
 refine gl_gF rfl rfl rfl rfl ?_
 refine gl_v rfl (o_pickF rfl rfl rfl) ?_
 refine gl_v rfl (o_move rfl) ?_
 refine gl_gT rfl rfl rfl ?_
 refine gl_v rfl (o_move rfl) ?_
 refine gl_gT rfl rfl rfl ?_
 refine gl_v rfl (o_is (c := false) (by first | rfl | exact decide_eq_false (by omega)) (o_eql rfl rfl)) ?_
 refine gl_gT rfl rfl rfl ?_
 refine gl_v rfl (o_move rfl) ?_
 refine gl_gF rfl rfl rfl rfl ?_
 refine gl_gF rfl rfl rfl rfl ?_
 refine gl_gF rfl rfl rfl rfl ?_
 refine gl_gU rfl rfl rfl ?_
 refine gl_gU rfl rfl rfl ?_
 refine gl_gF rfl rfl rfl rfl ?_
 refine gl_gT rfl rfl rfl ?_
 refine gl_v rfl (o_pickF rfl rfl rfl) ?_
 refine gl_v rfl (o_pickF rfl rfl rfl) ?_
 refine gl_nil ?_
 refine ge_then ?_
 refine g_cond_false rfl ?_
 refine g_skip ?_
 refine ge_then ?_
 refine g_seq ?_
 refine g_seq ?_
 refine g_region ?_
 refine gl_v rfl (o_move rfl) ?_
 refine gl_v rfl (o_is (c := false) (by first | rfl | exact decide_eq_false (by omega)) (o_eql rfl rfl)) ?_
 refine gl_nil ?_
 refine ge_then ?_
 refine g_cond_false rfl ?_
 refine g_skip ?_
 refine ge_then ?_
 refine g_seq ?_
 refine g_region ?_
 refine gl_v rfl (o_move rfl) ?_
 refine gl_v rfl (o_build rfl rfl) ?_
 refine gl_n rfl (o_alloc) ?_
 rintro _ _ ⟨b7, rfl, rfl⟩
 first | refine gl_u (o_storeSA rfl rfl rfl rfl (by simp; omega) (by simp)) ?_ | refine gl_u (o_storeA rfl rfl rfl rfl rfl) ?_
 refine gl_nil ?_
 refine ge_then ?_
 refine g_seq ?_
 refine g_seq ?_
 refine g_region ?_
 refine gl_v rfl (o_move rfl) ?_
 refine gl_nil ?_
 refine ge_then ?_
 refine g_block ?_
 refine g_seq ?_
 refine g_seq ?_
 refine g_region ?_
 refine gl_v rfl (o_is (c := false) (by first | rfl | exact decide_eq_false (by omega)) (o_eql rfl rfl)) ?_
 refine gl_v rfl (o_assign rfl) ?_
 refine gl_nil ?_
 refine ge_then ?_
 refine g_cond_false rfl ?_
 refine g_region ?_
 refine gl_v rfl (o_is (c := false) (by first | rfl | exact decide_eq_false (by omega)) (o_eql rfl rfl)) ?_
 refine gl_v rfl (o_assign rfl) ?_
 refine gl_nil ?_
 refine ge_then ?_
 refine g_cond_false rfl ?_
 refine g_seq ?_
 refine g_region ?_
 refine gl_v rfl (o_is (c := true) (by first | rfl | exact decide_eq_true (by omega)) (o_eql rfl rfl)) ?_
 refine gl_v rfl (o_assign rfl) ?_
 refine gl_nil ?_
 refine ge_then ?_
 refine g_cond_true rfl ?_
 refine g_region ?_
 refine gl_v rfl (o_build rfl rfl) ?_
 first | refine gl_v rfl (o_fldS rfl) ?_ | refine gl_v rfl (o_fld rfl) ?_
 first | refine gl_u (o_storeSA rfl rfl rfl rfl (by simp; omega) (by simp)) ?_ | refine gl_u (o_storeA rfl rfl rfl rfl rfl) ?_
 refine gl_nil ?_
 refine ge_block ?_
 refine ge_then ?_
 refine g_seq ?_
 refine g_region ?_
 first | refine gl_v rfl (o_loadSA rfl rfl rfl) ?_ | refine gl_v rfl (o_loadA rfl rfl rfl) ?_
 first | refine gl_u (o_storeSA rfl rfl rfl rfl (by simp; omega) (by simp)) ?_ | refine gl_u (o_storeA rfl rfl rfl rfl rfl) ?_
 refine gl_nil ?_
 refine ge_then ?_
 refine g_ret ?_
 refine ret1c (.inl rfl) rfl rfl rfl rfl [kA (⟨3, 2, 0, none, 0, [], 0, false, false, 0, 0, none, 0, [], none, 0, [], none, 0, []⟩ : RK)] (⟨rfl, rfl⟩) (fun h s => kA_close (y := (⟨3, 2, 0, none, 0, [], 0, false, false, 0, 0, none, 0, [], none, 0, [], none, 0, []⟩ : RK)) (fun h s => own_nil0 h (own_nil0 h (own_nil0 h (own_nil0 h ((To.sat (by repeat (first | exact .nil | exact .done .refl | (apply To.cons; · (repeat (first | exact .head | apply Sel.tail))) | exact .done (by repeat (first | exact .refl | apply Drop.skip))))) h s))))) h s)

set_option maxRecDepth 8000 in
set_option maxHeartbeats 1000000 in
theorem rbegin_4 (id d : Int) (hid : 0 ≤ id ∧ id ≤ 18446744073709551615)  : FnS Tryz.prog 36 [I64 4, U64 id, I64 d] [] (fun u Bs => u = .agg (kV (⟨4, 0, 0, none, 0, [], 0, false, false, 0, 0, none, 0, [], none, 0, [], none, 0, []⟩ : RK)).toArray ∧ Bs = [kA (⟨4, 0, 0, none, 0, [], 0, false, false, 0, 0, none, 0, [], none, 0, [], none, 0, []⟩ : RK)]) := by
 refine fn_body Tryz.func36 rfl rfl rfl ?_
 intro W0 R
 simp only [List.zipIdx_cons, List.zipIdx_nil, List.map_cons, List.map_nil, Nat.zero_add, Nat.reduceAdd, List.cons_append, List.nil_append]
 refine g_seq ?_
 refine g_region ?_
 refine gl_n rfl (o_alloc) ?_
 rintro _ _ ⟨b6, rfl, rfl⟩
 refine gl_nil ?_
 refine ge_then ?_
 refine g_seq ?_
 refine g_seq ?_
 refine g_region ?_
 refine gl_v rfl (o_move rfl) ?_
 refine gl_v rfl (o_is (c := false) (by first | rfl | exact decide_eq_false (by omega)) (o_eql rfl rfl)) ?_
 refine gl_v rfl (o_move rfl) ?_
 refine gl_gT rfl rfl rfl ?_
 refine gl_v rfl (o_move rfl) ?_
 refine gl_gT rfl rfl rfl ?_
 refine gl_v rfl (o_is (c := false) (by first | rfl | exact decide_eq_false (by omega)) (o_eql rfl rfl)) ?_
 refine gl_v rfl (o_pickF rfl rfl rfl) ?_
 refine gl_v rfl (o_move rfl) ?_
 refine gl_gF rfl rfl rfl rfl ?_
 refine gl_gF rfl rfl rfl rfl ?_
 refine gl_v rfl (o_pickF rfl rfl rfl) ?_
 refine gl_v rfl (o_move rfl) ?_
 refine gl_gT rfl rfl rfl ?_
 refine gl_v rfl (o_move rfl) ?_
 refine gl_gT rfl rfl rfl ?_
 refine gl_v rfl (o_is (c := false) (by first | rfl | exact decide_eq_false (by omega)) (o_eql rfl rfl)) ?_
 refine gl_gT rfl rfl rfl ?_
 refine gl_v rfl (o_move rfl) ?_
 refine gl_gF rfl rfl rfl rfl ?_
 refine gl_gF rfl rfl rfl rfl ?_
 refine gl_gF rfl rfl rfl rfl ?_
 refine gl_gU rfl rfl rfl ?_
 refine gl_gU rfl rfl rfl ?_
 refine gl_gF rfl rfl rfl rfl ?_
 refine gl_gT rfl rfl rfl ?_
 refine gl_v rfl (o_pickF rfl rfl rfl) ?_
 refine gl_v rfl (o_pickF rfl rfl rfl) ?_
 refine gl_nil ?_
 refine ge_then ?_
 refine g_cond_false rfl ?_
 refine g_skip ?_
 refine ge_then ?_
 refine g_seq ?_
 refine g_seq ?_
 refine g_region ?_
 refine gl_v rfl (o_move rfl) ?_
 refine gl_v rfl (o_is (c := false) (by first | rfl | exact decide_eq_false (by omega)) (o_eql rfl rfl)) ?_
 refine gl_nil ?_
 refine ge_then ?_
 refine g_cond_false rfl ?_
 refine g_skip ?_
 refine ge_then ?_
 refine g_seq ?_
 refine g_region ?_
 refine gl_v rfl (o_move rfl) ?_
 refine gl_v rfl (o_build rfl rfl) ?_
 refine gl_n rfl (o_alloc) ?_
 rintro _ _ ⟨b7, rfl, rfl⟩
 first | refine gl_u (o_storeSA rfl rfl rfl rfl (by simp; omega) (by simp)) ?_ | refine gl_u (o_storeA rfl rfl rfl rfl rfl) ?_
 refine gl_nil ?_
 refine ge_then ?_
 refine g_seq ?_
 refine g_seq ?_
 refine g_region ?_
 refine gl_v rfl (o_move rfl) ?_
 refine gl_nil ?_
 refine ge_then ?_
 refine g_block ?_
 refine g_seq ?_
 refine g_seq ?_
 refine g_region ?_
 refine gl_v rfl (o_is (c := false) (by first | rfl | exact decide_eq_false (by omega)) (o_eql rfl rfl)) ?_
 refine gl_v rfl (o_assign rfl) ?_
 refine gl_nil ?_
 refine ge_then ?_
 refine g_cond_false rfl ?_
 refine g_region ?_
 refine gl_v rfl (o_is (c := false) (by first | rfl | exact decide_eq_false (by omega)) (o_eql rfl rfl)) ?_
 refine gl_v rfl (o_assign rfl) ?_
 refine gl_nil ?_
 refine ge_then ?_
 refine g_cond_false rfl ?_
 refine g_seq ?_
 refine g_region ?_
 refine gl_v rfl (o_is (c := false) (by first | rfl | exact decide_eq_false (by omega)) (o_eql rfl rfl)) ?_
 refine gl_v rfl (o_assign rfl) ?_
 refine gl_nil ?_
 refine ge_then ?_
 refine g_cond_false rfl ?_
 refine g_skip ?_
 refine ge_block ?_
 refine ge_then ?_
 refine g_seq ?_
 refine g_region ?_
 first | refine gl_v rfl (o_loadSA rfl rfl rfl) ?_ | refine gl_v rfl (o_loadA rfl rfl rfl) ?_
 first | refine gl_u (o_storeSA rfl rfl rfl rfl (by simp; omega) (by simp)) ?_ | refine gl_u (o_storeA rfl rfl rfl rfl rfl) ?_
 refine gl_nil ?_
 refine ge_then ?_
 refine g_ret ?_
 refine ret1c (.inl rfl) rfl rfl rfl rfl [kA (⟨4, 0, 0, none, 0, [], 0, false, false, 0, 0, none, 0, [], none, 0, [], none, 0, []⟩ : RK)] (⟨rfl, rfl⟩) (fun h s => kA_close (y := (⟨4, 0, 0, none, 0, [], 0, false, false, 0, 0, none, 0, [], none, 0, [], none, 0, []⟩ : RK)) (fun h s => own_nil0 h (own_nil0 h (own_nil0 h (own_nil0 h ((To.sat (by repeat (first | exact .nil | exact .done .refl | (apply To.cons; · (repeat (first | exact .head | apply Sel.tail))) | exact .done (by repeat (first | exact .refl | apply Drop.skip))))) h s))))) h s)

theorem rbegin_spec (B : CB) (hn : 1 ≤ B.n) (w : Wh) (kind id d : Int) (hk : 1 ≤ kind ∧ kind ≤ 4) (hid : 0 ≤ id ∧ id ≤ 18446744073709551615) : FnS Tryz.prog 36 [I64 kind, U64 id, I64 d] [] (fun u Bs => ∃ y : RK, u = .agg (kV y).toArray ∧ Bs = [kA y] ∧ y.kind = kind ∧ y.l = [] ∧ RelK B w (beginC B w kind id d) y) := by
  have hc : kind = 1 ∨ kind = 2 ∨ kind = 3 ∨ kind = 4 := by omega
  rcases hc with rfl | rfl | rfl | rfl
  · have e : beginC B w 1 id d = askC id d := rfl
    rw [e]
    unfold askC
    by_cases hb : 1125899906842624 < id
    · rw [if_pos (by omega)]; exact (rbegin_1a id d hid hb).mono fun u Bs h => ⟨_, h.1, h.2, rfl, rfl, ⟨rfl, rfl, rfl, rfl, rfl, rfl, (fun h => by cases h), by first | decide | (dsimp only; omega), (fun x hx => by cases hx), Nat.zero_le _⟩⟩
    · by_cases h1 : d < 1
      · rw [if_pos (by omega)]; exact (rbegin_1b id d hid (by omega) h1).mono fun u Bs h => ⟨_, h.1, h.2, rfl, rfl, ⟨rfl, rfl, rfl, rfl, rfl, rfl, (fun h => by cases h), by first | decide | (dsimp only; omega), (fun x hx => by cases hx), Nat.zero_le _⟩⟩
      · by_cases h2 : 4095 < d
        · rw [if_pos (by omega)]; exact (rbegin_1c id d hid (by omega) h2).mono fun u Bs h => ⟨_, h.1, h.2, rfl, rfl, ⟨rfl, rfl, rfl, rfl, rfl, rfl, (fun h => by cases h), by first | decide | (dsimp only; omega), (fun x hx => by cases hx), Nat.zero_le _⟩⟩
        · rw [if_neg (by omega)]; exact (rbegin_1 id d hid (by omega) (by omega)).mono fun u Bs h => ⟨_, h.1, h.2, rfl, rfl, ⟨rfl, rfl, rfl, rfl, rfl, rfl, fun _ => ⟨.inl rfl, rfl, rfl, RelN.start (B.b + 1) B.n 1 _ (by omega)⟩, by first | decide | (dsimp only; omega), (fun x hx => by cases hx), Nat.zero_le _⟩⟩
  · have e : beginC B w 2 id d = cutC id := rfl
    rw [e]
    unfold cutC
    by_cases hb : 1125899906842624 < id
    · rw [if_pos hb]; exact (rbegin_2a id d hid hb).mono fun u Bs h => ⟨_, h.1, h.2, rfl, rfl, ⟨rfl, rfl, rfl, rfl, rfl, rfl, (fun h => by cases h), by first | decide | (dsimp only; omega), (fun x hx => by cases hx), Nat.zero_le _⟩⟩
    · rw [if_neg hb]; exact (rbegin_2 id d hid (by omega)).mono fun u Bs h => ⟨_, h.1, h.2, rfl, rfl, ⟨rfl, rfl, rfl, rfl, rfl, rfl, fun _ => ⟨.inr rfl, rfl, rfl, RelN.start (B.b + 1) B.n 1 _ (by omega)⟩, by first | decide | (dsimp only; omega), (fun x hx => by cases hx), Nat.zero_le _⟩⟩
  · have e : beginC B w 3 id d = beatC B w := rfl
    rw [e]
    unfold beatC nextT
    rw [if_neg (by omega)]
    exact (rbegin_3 id d hid).mono fun u Bs h => ⟨_, h.1, h.2, rfl, rfl, ⟨rfl, rfl, rfl, rfl, rfl, rfl, fun _ => ⟨rfl, rfl, rfl, RelN.start (B.b + 1) B.n 2 0 (by omega), Nat.zero_add _, hn⟩, by first | decide | (dsimp only; omega), (fun x hx => by cases hx), Nat.zero_le _⟩⟩
  · exact (rbegin_4 id d hid).mono fun u Bs h => ⟨_, h.1, h.2, rfl, rfl, ⟨rfl, rfl, rfl, rfl, rfl, rfl, fun _ => ⟨rfl, rfl, rfl⟩, by first | decide | (dsimp only; omega), (fun x hx => by cases hx), Nat.zero_le _⟩⟩

attribute [local irreducible] goO goL askW askCut askRef addR cutR tickR dueL nextN
set_option maxRecDepth 8000 in
set_option maxHeartbeats 1000000 in
theorem rst_over (q c : Nat) (B : CB) (L : List Int) (t : Int) (hB : CI B L) (w : Wh) (hw : WI w) (i1 : Option Addr) (j1 : Nat) (i2 : Option Addr) (j2 : Nat) (y : RK) (hov : y.over = true) : FnS Tryz.prog 38 [ptr q 0, ptr c 0, .agg ([I64 (y.kind), I64 (y.pk), U64 (y.v), tl y.a y.c y.l, I64 (y.taken), .bool (y.last), .bool (y.over), I64 (y.out), U64 (y.val), tl y.a0 y.k0 y.due, tl y.a1 y.k1 y.cut, tl y.a2 y.k2 y.ref]).toArray] [rmemA q L t, cel c 49 [I64 B.b, I64 B.n, I64 w.now, .slice i1 w.T.length j1, .slice i2 w.T.length j2], idO i1 j1 w.T.length w.T, duO i2 j2 w.T.length w.T, tlA y.a y.c y.l, tlA y.a0 y.k0 y.due, tlA y.a1 y.k1 y.cut, tlA y.a2 y.k2 y.ref] (fun u Bs => u = .agg ([I64 (y.kind), I64 (y.pk), U64 (y.v), tl y.a y.c y.l, I64 (y.taken), .bool (y.last), .bool (y.over), I64 (y.out), U64 (y.val), tl y.a0 y.k0 y.due, tl y.a1 y.k1 y.cut, tl y.a2 y.k2 y.ref]).toArray ∧ Bs = [rmemA q L t, cel c 49 [I64 B.b, I64 B.n, I64 w.now, .slice i1 w.T.length j1, .slice i2 w.T.length j2], idO i1 j1 w.T.length w.T, duO i2 j2 w.T.length w.T, tlA y.a y.c y.l, tlA y.a0 y.k0 y.due, tlA y.a1 y.k1 y.cut, tlA y.a2 y.k2 y.ref]) := by
 refine fn_body Tryz.func38 rfl rfl rfl ?_
 intro W0 R
 simp only [List.zipIdx_cons, List.zipIdx_nil, List.map_cons, List.map_nil, Nat.zero_add, Nat.reduceAdd, List.cons_append, List.nil_append]
 have h1 := hB.m1
 have h7 := hB.m64
 have hlen := hB.len
 have htop := hB.top
 have hlb : B.b < L.length := by omega
 refine g_seq ?_
 refine g_region ?_
 refine gl_n rfl (o_boxA rfl) ?_
 rintro _ _ ⟨b5, rfl, rfl⟩
 refine gl_n rfl (o_alloc) ?_
 rintro _ _ ⟨b6, rfl, rfl⟩
 refine gl_nil ?_
 refine ge_then ?_
 refine g_seq ?_
 refine g_seq ?_
 refine g_region ?_
 first | refine gl_v rfl (o_fldS rfl) ?_ | refine gl_v rfl (o_fld rfl) ?_
 first | refine gl_v rfl (o_load rfl rfl) ?_ | refine gl_v rfl (o_loadS rfl rfl) ?_ | refine gl_v rfl (o_loadC rfl) ?_
 refine gl_nil ?_
 refine ge_then ?_
 refine g_cond_true (by show some (Value.bool y.over) = _; rw [hov]) ?_
 refine g_seq ?_
 refine g_region ?_
 first | refine gl_v rfl (o_loadSA rfl rfl rfl) ?_ | refine gl_v rfl (o_loadA rfl rfl rfl) ?_
 first | refine gl_u (o_storeSA rfl rfl rfl rfl (by simp; omega) (by simp)) ?_ | refine gl_u (o_storeA rfl rfl rfl rfl rfl) ?_
 refine gl_nil ?_
 refine ge_then ?_
 refine g_ret ?_
 refine ge_then_ret ?_
 refine ret1c (.inl rfl) rfl rfl rfl rfl _ (⟨rfl, rfl⟩) (To.sat (by repeat (first | exact .nil | exact .done .refl | (apply To.cons; · (repeat (first | exact .head | apply Sel.tail))) | exact .done (by repeat (first | exact .refl | apply Drop.skip)))))

set_option maxRecDepth 8000 in
set_option maxHeartbeats 1000000 in
theorem rst_now (q c : Nat) (B : CB) (L : List Int) (t : Int) (hB : CI B L) (w : Wh) (hw : WI w) (i1 : Option Addr) (j1 : Nat) (i2 : Option Addr) (j2 : Nat) (y : RK) (hov : y.over = false) (hk : y.kind = 4) : FnS Tryz.prog 38 [ptr q 0, ptr c 0, .agg ([I64 (y.kind), I64 (y.pk), U64 (y.v), tl y.a y.c y.l, I64 (y.taken), .bool (y.last), .bool (y.over), I64 (y.out), U64 (y.val), tl y.a0 y.k0 y.due, tl y.a1 y.k1 y.cut, tl y.a2 y.k2 y.ref]).toArray] [rmemA q L t, cel c 49 [I64 B.b, I64 B.n, I64 w.now, .slice i1 w.T.length j1, .slice i2 w.T.length j2], idO i1 j1 w.T.length w.T, duO i2 j2 w.T.length w.T, tlA y.a y.c y.l, tlA y.a0 y.k0 y.due, tlA y.a1 y.k1 y.cut, tlA y.a2 y.k2 y.ref] (fun u Bs => u = .agg ([I64 (4), I64 (0), U64 (0), nilS, I64 (0), .bool (false), .bool (true), I64 (1), U64 (L.getD B.b 0), nilS, nilS, nilS]).toArray ∧ Bs = [rmemA q L (tup t), cel c 49 [I64 B.b, I64 B.n, I64 w.now, .slice i1 w.T.length j1, .slice i2 w.T.length j2], idO i1 j1 w.T.length w.T, duO i2 j2 w.T.length w.T]) := by
 refine fn_body Tryz.func38 rfl rfl rfl ?_
 intro W0 R
 simp only [List.zipIdx_cons, List.zipIdx_nil, List.map_cons, List.map_nil, Nat.zero_add, Nat.reduceAdd, List.cons_append, List.nil_append]
 have h1 := hB.m1
 have h7 := hB.m64
 have hlen := hB.len
 have htop := hB.top
 have hlb : B.b < L.length := by omega
 refine g_seq ?_
 refine g_region ?_
 refine gl_n rfl (o_boxA rfl) ?_
 rintro _ _ ⟨b5, rfl, rfl⟩
 refine gl_n rfl (o_alloc) ?_
 rintro _ _ ⟨b6, rfl, rfl⟩
 refine gl_nil ?_
 refine ge_then ?_
 refine g_seq ?_
 refine g_seq ?_
 refine g_region ?_
 first | refine gl_v rfl (o_fldS rfl) ?_ | refine gl_v rfl (o_fld rfl) ?_
 first | refine gl_v rfl (o_load rfl rfl) ?_ | refine gl_v rfl (o_loadS rfl rfl) ?_ | refine gl_v rfl (o_loadC rfl) ?_
 refine gl_nil ?_
 refine ge_then ?_
 refine g_cond_false (by show some (Value.bool y.over) = _; rw [hov]) ?_
 refine g_skip ?_
 refine ge_then ?_
 refine g_seq ?_
 refine g_seq ?_
 refine g_region ?_
 first | refine gl_v rfl (o_fldS rfl) ?_ | refine gl_v rfl (o_fld rfl) ?_
 first | refine gl_v rfl (o_load rfl rfl) ?_ | refine gl_v rfl (o_loadS rfl rfl) ?_ | refine gl_v rfl (o_loadC rfl) ?_
 refine gl_v rfl (o_is (c := true) (by first | rfl | exact decide_eq_true (by omega)) (o_eql rfl rfl)) ?_
 refine gl_nil ?_
 refine ge_then ?_
 refine g_cond_true rfl ?_
 refine g_seq ?_
 refine g_region ?_
 refine gl_v rfl (o_move rfl) ?_
 refine gl_v rfl (o_move rfl) ?_
 refine gl_v rfl (o_nil rfl) ?_
 first | refine gl_v rfl (o_fldS rfl) ?_ | refine gl_v rfl (o_fld rfl) ?_
 first | refine gl_v rfl (o_load rfl rfl) ?_ | refine gl_v rfl (o_loadS rfl rfl) ?_ | refine gl_v rfl (o_loadC rfl) ?_
 refine gl_c rfl (o_call rfl (rLoad_spec q L t B.b hlb) (by repeat (first | exact .nil | (apply Part.cons; · (repeat (first | exact .head | apply Sel.tail)))))) ?_
 rintro _ R ⟨_, ⟨rfl, rfl⟩, rfl⟩
 try simp only [List.cons_append, List.nil_append]
 refine gl_v rfl (o_build rfl rfl) ?_
 first | refine gl_u (o_storeSA rfl rfl rfl rfl (by simp; omega) (by simp)) ?_ | refine gl_u (o_storeA rfl rfl rfl rfl rfl) ?_
 refine gl_nil ?_
 refine ge_then ?_
 refine g_ret ?_
 refine ge_then_ret ?_
 refine ret1c (.inl rfl) rfl rfl rfl rfl _ (⟨rfl, rfl⟩) (To.sat (by repeat (first | exact .nil | exact .done .refl | (apply To.cons; · (repeat (first | exact .head | apply Sel.tail))) | exact .done (by repeat (first | exact .refl | apply Drop.skip)))))

set_option maxRecDepth 8000 in
set_option maxHeartbeats 1000000 in
theorem rst_last (q c : Nat) (B : CB) (L : List Int) (t : Int) (hB : CI B L) (w : Wh) (hw : WI w) (i1 : Option Addr) (j1 : Nat) (i2 : Option Addr) (j2 : Nat) (y : RK) (hov : y.over = false) (hk : y.kind = 3) (hla : y.last = true) : FnS Tryz.prog 38 [ptr q 0, ptr c 0, .agg ([I64 (y.kind), I64 (y.pk), U64 (y.v), tl y.a y.c y.l, I64 (y.taken), .bool (y.last), .bool (y.over), I64 (y.out), U64 (y.val), tl y.a0 y.k0 y.due, tl y.a1 y.k1 y.cut, tl y.a2 y.k2 y.ref]).toArray] [rmemA q L t, cel c 49 [I64 B.b, I64 B.n, I64 w.now, .slice i1 w.T.length j1, .slice i2 w.T.length j2], idO i1 j1 w.T.length w.T, duO i2 j2 w.T.length w.T, tlA y.a y.c y.l, tlA y.a0 y.k0 y.due, tlA y.a1 y.k1 y.cut, tlA y.a2 y.k2 y.ref] (fun u Bs => ∃ i1' j1' i2' j2' a3 c3, u = .agg ([I64 (y.kind), I64 (y.pk), U64 (y.v), tl y.a y.c y.l, I64 (y.taken), .bool (y.last), .bool (true), I64 (1), U64 (y.val), .slice a3 (dueL w).length c3, tl y.a1 y.k1 y.cut, tl y.a2 y.k2 y.ref]).toArray ∧ Bs = [rmemA q (L.set B.b ((w.now + 1 : Nat) : Int)) (tup t), cel c 49 [I64 B.b, I64 B.n, I64 (tickR w).now, .slice i1' (tickR w).T.length j1', .slice i2' (tickR w).T.length j2'], idO i1' j1' (tickR w).T.length (tickR w).T, duO i2' j2' (tickR w).T.length (tickR w).T, tlA y.a y.c y.l, idO a3 c3 (dueL w).length (dueL w), tlA y.a1 y.k1 y.cut, tlA y.a2 y.k2 y.ref]) := by
 refine fn_body Tryz.func38 rfl rfl rfl ?_
 intro W0 R
 simp only [List.zipIdx_cons, List.zipIdx_nil, List.map_cons, List.map_nil, Nat.zero_add, Nat.reduceAdd, List.cons_append, List.nil_append]
 have h1 := hB.m1
 have h7 := hB.m64
 have hlen := hB.len
 have htop := hB.top
 have hlb : B.b < L.length := by omega
 have hnw := hw.now
 refine g_seq ?_
 refine g_region ?_
 refine gl_n rfl (o_boxA rfl) ?_
 rintro _ _ ⟨b5, rfl, rfl⟩
 refine gl_n rfl (o_alloc) ?_
 rintro _ _ ⟨b6, rfl, rfl⟩
 refine gl_nil ?_
 refine ge_then ?_
 refine g_seq ?_
 refine g_seq ?_
 refine g_region ?_
 first | refine gl_v rfl (o_fldS rfl) ?_ | refine gl_v rfl (o_fld rfl) ?_
 first | refine gl_v rfl (o_load rfl rfl) ?_ | refine gl_v rfl (o_loadS rfl rfl) ?_ | refine gl_v rfl (o_loadC rfl) ?_
 refine gl_nil ?_
 refine ge_then ?_
 refine g_cond_false (by show some (Value.bool y.over) = _; rw [hov]) ?_
 refine g_skip ?_
 refine ge_then ?_
 refine g_seq ?_
 refine g_seq ?_
 refine g_region ?_
 first | refine gl_v rfl (o_fldS rfl) ?_ | refine gl_v rfl (o_fld rfl) ?_
 first | refine gl_v rfl (o_load rfl rfl) ?_ | refine gl_v rfl (o_loadS rfl rfl) ?_ | refine gl_v rfl (o_loadC rfl) ?_
 refine gl_v rfl (o_is (c := false) (by first | rfl | exact decide_eq_false (by omega)) (o_eql rfl rfl)) ?_
 refine gl_nil ?_
 refine ge_then ?_
 refine g_cond_false rfl ?_
 refine g_skip ?_
 refine ge_then ?_
 refine g_seq ?_
 refine g_seq ?_
 refine g_region ?_
 first | refine gl_v rfl (o_fldS rfl) ?_ | refine gl_v rfl (o_fld rfl) ?_
 first | refine gl_v rfl (o_load rfl rfl) ?_ | refine gl_v rfl (o_loadS rfl rfl) ?_ | refine gl_v rfl (o_loadC rfl) ?_
 refine gl_nil ?_
 refine ge_then ?_
 refine g_cond_true (by show some (Value.bool y.last) = _; rw [hla]) ?_
 refine g_seq ?_
 refine g_draw [12] [] [(0, .loc), (1, .loc), (2, .loc), (3, .loc), (4, .loc), (5, .loc), (6, .loc), (7, .loc), (8, .loc), (9, .loc), (10, .loc), (11, .loc), (12, .eff)] [] mixed (by kernel_rfl) ?_
 refine go_v rfl .none rfl (o_move rfl) ?_
 refine go_v rfl .none rfl (o_move rfl) ?_
 refine go_v rfl .none rfl (o_nil rfl) ?_
 first | refine go_v rfl .none rfl (o_fldS rfl) ?_ | refine go_v rfl .none rfl (o_fld rfl) ?_
 first | refine go_v rfl .none rfl (o_load rfl rfl) ?_ | refine go_v rfl .none rfl (o_loadS rfl rfl) ?_ | refine go_v rfl .none rfl (o_loadC rfl) ?_
 refine go_v rfl .none rfl (o_move rfl) ?_
 refine go_v rfl .none rfl (o_nil rfl) ?_
 first | refine go_v rfl .none rfl (o_fldS rfl) ?_ | refine go_v rfl .none rfl (o_fld rfl) ?_
 first | refine go_v rfl .none rfl (o_fldS rfl) ?_ | refine go_v rfl .none rfl (o_fld rfl) ?_
 first | refine go_v rfl .none rfl (o_load rfl rfl) ?_ | refine go_v rfl .none rfl (o_loadS rfl rfl) ?_ | refine go_v rfl .none rfl (o_loadC rfl) ?_
 refine go_v rfl .none rfl (o_addR ((w.now + 1 : Nat) : Int) (by rw [wr_i64 (by omega)]; omega) rfl rfl) ?_
 refine go_v rfl .none rfl (o_convR ((w.now + 1 : Nat) : Int) (wr_u64 (by omega)) rfl) ?_
 refine go_c rfl .none rfl (o_call rfl (rStore_spec q L t B.b hlb ((w.now + 1 : Nat) : Int)) (by repeat (first | exact .nil | (apply Part.cons; · (repeat (first | exact .head | apply Sel.tail)))))) ?_
 rintro _ R ⟨_, ⟨rfl, rfl⟩, rfl⟩
 try simp only [List.cons_append, List.nil_append]
 refine ⟨(fun hG => absurd hG (by decide)), ?_⟩
 refine go_nil ?_
 refine ge_then ?_
 refine g_seq ?_
 refine g_region ?_
 refine gl_v rfl (o_move rfl) ?_
 refine gl_v rfl (o_nil rfl) ?_
 first | refine gl_v rfl (o_fldS rfl) ?_ | refine gl_v rfl (o_fld rfl) ?_
 first | refine gl_v rfl (o_loadSA rfl rfl rfl) ?_ | refine gl_v rfl (o_loadA rfl rfl rfl) ?_
 refine gl_c rfl (o_call rfl (rtick_spec i1 i2 j1 j2 w hw.ok hw.now) (by repeat (first | exact .nil | (apply Part.cons; · (repeat (first | exact .head | apply Sel.tail)))))) ?_
 rintro _ R ⟨_, ⟨i1', j1', i2', j2', a3, c3, rfl, rfl⟩, rfl⟩
 try simp only [List.cons_append, List.nil_append]
 refine gl_v rfl (o_move rfl) ?_
 refine gl_v rfl (o_extract rfl rfl) ?_
 refine gl_v rfl (o_extract rfl rfl) ?_
 refine gl_n rfl (o_alloc) ?_
 rintro _ _ ⟨b7, rfl, rfl⟩
 first | refine gl_u (o_storeSA rfl rfl rfl rfl (by simp; omega) (by simp)) ?_ | refine gl_u (o_storeA rfl rfl rfl rfl rfl) ?_
 refine gl_v rfl (o_assign rfl) ?_
 refine gl_nil ?_
 refine ge_then ?_
 refine g_seq ?_
 refine g_region ?_
 refine gl_v rfl (o_move rfl) ?_
 first | refine gl_v rfl (o_loadSA rfl rfl rfl) ?_ | refine gl_v rfl (o_loadA rfl rfl rfl) ?_
 refine gl_v rfl (o_nil rfl) ?_
 first | refine gl_v rfl (o_fldS rfl) ?_ | refine gl_v rfl (o_fld rfl) ?_
 first | refine gl_u (o_storeSA rfl rfl rfl rfl (by simp; omega) (by simp)) ?_ | refine gl_u (o_storeA rfl rfl rfl rfl rfl) ?_
 refine gl_nil ?_
 refine ge_then ?_
 refine g_seq ?_
 refine g_region ?_
 refine gl_v rfl (o_move rfl) ?_
 first | refine gl_v rfl (o_fldS rfl) ?_ | refine gl_v rfl (o_fld rfl) ?_
 first | refine gl_u (o_store rfl rfl rfl rfl) ?_ | refine gl_u (o_storeS rfl rfl rfl (by first | assumption | omega | simp)) ?_
 refine gl_nil ?_
 refine ge_then ?_
 refine g_seq ?_
 refine g_region ?_
 first | refine gl_v rfl (o_fldS rfl) ?_ | refine gl_v rfl (o_fld rfl) ?_
 first | refine gl_u (o_store rfl rfl rfl rfl) ?_ | refine gl_u (o_storeS rfl rfl rfl (by first | assumption | omega | simp)) ?_
 refine gl_nil ?_
 refine ge_then ?_
 refine g_seq ?_
 refine g_region ?_
 first | refine gl_v rfl (o_fldS rfl) ?_ | refine gl_v rfl (o_fld rfl) ?_
 first | refine gl_u (o_store rfl rfl rfl rfl) ?_ | refine gl_u (o_storeS rfl rfl rfl (by first | assumption | omega | simp)) ?_
 refine gl_nil ?_
 refine ge_then ?_
 refine g_seq ?_
 refine g_region ?_
 first | refine gl_v rfl (o_loadSA rfl rfl rfl) ?_ | refine gl_v rfl (o_loadA rfl rfl rfl) ?_
 first | refine gl_u (o_storeSA rfl rfl rfl rfl (by simp; omega) (by simp)) ?_ | refine gl_u (o_storeA rfl rfl rfl rfl rfl) ?_
 refine gl_nil ?_
 refine ge_then ?_
 refine g_ret ?_
 refine ge_then_ret ?_
 refine ret1c (.inl rfl) rfl rfl rfl rfl _ (⟨i1', j1', i2', j2', a3, c3, rfl, rfl⟩) (To.sat (by repeat (first | exact .nil | exact .done .refl | (apply To.cons; · (repeat (first | exact .head | apply Sel.tail))) | exact .done (by repeat (first | exact .refl | apply Drop.skip)))))

set_option maxRecDepth 8000 in
set_option maxHeartbeats 1000000 in
theorem rst_all (q c : Nat) (B : CB) (L : List Int) (t : Int) (hB : CI B L) (w : Wh) (hw : WI w) (i1 : Option Addr) (j1 : Nat) (i2 : Option Addr) (j2 : Nat) (y : RK) (hov : y.over = false) (hk : y.kind ≠ 4) (hla : y.last = false) (o : RO) (hR : RelN (B.b + 1) B.n o y.pk y.v y.l) (hpk : 1 ≤ y.pk ∧ y.pk ≤ 5) (hv : 0 ≤ y.v ∧ y.v ≤ 18446744073709551615) (hl : LI y.l) (hm : y.l.length ≤ 90000) (hLI : LI L) (hvv : 0 ≤ (goO (B.b + 1) B.n L o).value ∧ (goO (B.b + 1) B.n L o).value ≤ 18446744073709551615) (hcu : y.cut.length ≤ 1000) (hre : y.ref.length ≤ 1000) (htk : y.taken ≤ 64) : FnS Tryz.prog 38 [ptr q 0, ptr c 0, .agg ([I64 (y.kind), I64 (y.pk), U64 (y.v), tl y.a y.c y.l, I64 (y.taken), .bool (y.last), .bool (y.over), I64 (y.out), U64 (y.val), tl y.a0 y.k0 y.due, tl y.a1 y.k1 y.cut, tl y.a2 y.k2 y.ref]).toArray] [rmemA q L t, cel c 49 [I64 B.b, I64 B.n, I64 w.now, .slice i1 w.T.length j1, .slice i2 w.T.length j2], idO i1 j1 w.T.length w.T, duO i2 j2 w.T.length w.T, tlA y.a y.c y.l, tlA y.a0 y.k0 y.due, tlA y.a1 y.k1 y.cut, tlA y.a2 y.k2 y.ref] (fun u Bs => ((goO (B.b + 1) B.n L o).over = false ∧ ∃ a' c' l' t', u = .agg ([I64 (y.kind), I64 (y.pk), U64 (y.v), tl a' c' l', I64 (y.taken), .bool (y.last), .bool (y.over), I64 (y.out), U64 (y.val), tl y.a0 y.k0 y.due, tl y.a1 y.k1 y.cut, tl y.a2 y.k2 y.ref]).toArray ∧ RelN (B.b + 1) B.n (goO (B.b + 1) B.n L o) y.pk y.v l' ∧ LI l' ∧ l'.length ≤ y.l.length + 1 ∧ Bs = [rmemA q (goL (B.b + 1) B.n L o) t', cel c 49 [I64 B.b, I64 B.n, I64 w.now, .slice i1 w.T.length j1, .slice i2 w.T.length j2], idO i1 j1 w.T.length w.T, duO i2 j2 w.T.length w.T, tlA a' c' l', tlA y.a0 y.k0 y.due, tlA y.a1 y.k1 y.cut, tlA y.a2 y.k2 y.ref]) ∨ ((goO (B.b + 1) B.n L o).over = true ∧ y.kind ≠ 3 ∧ ∃ a' c' l' t', u = .agg ([I64 (y.kind), I64 (y.pk), U64 (y.v), tl a' c' l', I64 (y.taken), .bool (y.last), .bool (true), I64 ((goO (B.b + 1) B.n L o).out), U64 (y.val), tl y.a0 y.k0 y.due, tl y.a1 y.k1 y.cut, tl y.a2 y.k2 y.ref]).toArray ∧ RelN (B.b + 1) B.n (goO (B.b + 1) B.n L o) y.pk y.v l' ∧ LI l' ∧ l'.length ≤ y.l.length + 1 ∧ Bs = [rmemA q (goL (B.b + 1) B.n L o) t', cel c 49 [I64 B.b, I64 B.n, I64 w.now, .slice i1 w.T.length j1, .slice i2 w.T.length j2], idO i1 j1 w.T.length w.T, duO i2 j2 w.T.length w.T, tlA a' c' l', tlA y.a0 y.k0 y.due, tlA y.a1 y.k1 y.cut, tlA y.a2 y.k2 y.ref]) ∨ ((goO (B.b + 1) B.n L o).over = true ∧ y.kind = 3 ∧ (goO (B.b + 1) B.n L o).out ≠ 1 ∧ ∃ a' c' l' t', u = .agg ([I64 (y.kind), I64 (y.pk), U64 (y.v), tl a' c' l', I64 (y.taken), .bool (true), .bool (y.over), I64 (y.out), U64 (y.val), tl y.a0 y.k0 y.due, tl y.a1 y.k1 y.cut, tl y.a2 y.k2 y.ref]).toArray ∧ RelN (B.b + 1) B.n (goO (B.b + 1) B.n L o) y.pk y.v l' ∧ LI l' ∧ l'.length ≤ y.l.length + 1 ∧ Bs = [rmemA q (goL (B.b + 1) B.n L o) t', cel c 49 [I64 B.b, I64 B.n, I64 w.now, .slice i1 w.T.length j1, .slice i2 w.T.length j2], idO i1 j1 w.T.length w.T, duO i2 j2 w.T.length w.T, tlA a' c' l', tlA y.a0 y.k0 y.due, tlA y.a1 y.k1 y.cut, tlA y.a2 y.k2 y.ref]) ∨ ((goO (B.b + 1) B.n L o).over = true ∧ y.kind = 3 ∧ (goO (B.b + 1) B.n L o).out = 1 ∧ ∃ t' i1' j1' i2' j2' a1' k1' a2' k2', u = .agg ([I64 (y.kind), I64 (2), U64 (0), nilS, I64 (((y.taken + 1 : Nat) : Int)), .bool (decide (((y.taken + 1 : Nat) : Int) = (B.n : Int))), .bool (y.over), I64 (y.out), U64 (y.val), tl y.a0 y.k0 y.due, tl a1' k1' (y.cut ++ askCut (goO (B.b + 1) B.n L o).value w), tl a2' k2' (y.ref ++ askRef (goO (B.b + 1) B.n L o).value w)]).toArray ∧ Bs = [rmemA q (goL (B.b + 1) B.n L o) t', cel c 49 [I64 B.b, I64 B.n, I64 (askW (goO (B.b + 1) B.n L o).value w).now, .slice i1' (askW (goO (B.b + 1) B.n L o).value w).T.length j1', .slice i2' (askW (goO (B.b + 1) B.n L o).value w).T.length j2'], idO i1' j1' (askW (goO (B.b + 1) B.n L o).value w).T.length (askW (goO (B.b + 1) B.n L o).value w).T, duO i2' j2' (askW (goO (B.b + 1) B.n L o).value w).T.length (askW (goO (B.b + 1) B.n L o).value w).T, tlA y.a0 y.k0 y.due, tlA a1' k1' (y.cut ++ askCut (goO (B.b + 1) B.n L o).value w), tlA a2' k2' (y.ref ++ askRef (goO (B.b + 1) B.n L o).value w)])) := by
 refine fn_body Tryz.func38 rfl rfl rfl ?_
 intro W0 R
 simp only [List.zipIdx_cons, List.zipIdx_nil, List.map_cons, List.map_nil, Nat.zero_add, Nat.reduceAdd, List.cons_append, List.nil_append]
 have h1 := hB.m1
 have h7 := hB.m64
 have hlen := hB.len
 have htop := hB.top
 have hlb : B.b < L.length := by omega
 refine g_seq ?_
 refine g_region ?_
 refine gl_n rfl (o_boxA rfl) ?_
 rintro _ _ ⟨b5, rfl, rfl⟩
 refine gl_n rfl (o_alloc) ?_
 rintro _ _ ⟨b6, rfl, rfl⟩
 refine gl_nil ?_
 refine ge_then ?_
 refine g_seq ?_
 refine g_seq ?_
 refine g_region ?_
 first | refine gl_v rfl (o_fldS rfl) ?_ | refine gl_v rfl (o_fld rfl) ?_
 first | refine gl_v rfl (o_load rfl rfl) ?_ | refine gl_v rfl (o_loadS rfl rfl) ?_ | refine gl_v rfl (o_loadC rfl) ?_
 refine gl_nil ?_
 refine ge_then ?_
 refine g_cond_false (by show some (Value.bool y.over) = _; rw [hov]) ?_
 refine g_skip ?_
 refine ge_then ?_
 refine g_seq ?_
 refine g_seq ?_
 refine g_region ?_
 first | refine gl_v rfl (o_fldS rfl) ?_ | refine gl_v rfl (o_fld rfl) ?_
 first | refine gl_v rfl (o_load rfl rfl) ?_ | refine gl_v rfl (o_loadS rfl rfl) ?_ | refine gl_v rfl (o_loadC rfl) ?_
 refine gl_v rfl (o_is (c := false) (by first | rfl | exact decide_eq_false (by omega)) (o_eql rfl rfl)) ?_
 refine gl_nil ?_
 refine ge_then ?_
 refine g_cond_false rfl ?_
 refine g_skip ?_
 refine ge_then ?_
 refine g_seq ?_
 refine g_seq ?_
 refine g_region ?_
 first | refine gl_v rfl (o_fldS rfl) ?_ | refine gl_v rfl (o_fld rfl) ?_
 first | refine gl_v rfl (o_load rfl rfl) ?_ | refine gl_v rfl (o_loadS rfl rfl) ?_ | refine gl_v rfl (o_loadC rfl) ?_
 refine gl_nil ?_
 refine ge_then ?_
 refine g_cond_false (by show some (Value.bool y.last) = _; rw [hla]) ?_
 refine g_skip ?_
 refine ge_then ?_
 refine g_cut (fun act wo => ∃ (a' : Option Addr) (c' : Nat) (l' : List Int) (t' : Int), RelN (B.b + 1) B.n (goO (B.b + 1) B.n L o) y.pk y.v l' ∧ LI l' ∧ l'.length ≤ y.l.length + 1 ∧ HasSl Tryz.f38.ntmps [(6, ptr b6 0), (5, ptr b5 0), (1, ptr c 0), (0, ptr q 0)] act ∧ St W0 (cel b5 76 ([I64 (y.kind), I64 (y.pk), U64 (y.v), tl a' c' l', I64 (y.taken), .bool (y.last), .bool (y.over), I64 (y.out), U64 (y.val), tl y.a0 y.k0 y.due, tl y.a1 y.k1 y.cut, tl y.a2 y.k2 y.ref]) :: cel b6 76 [I64 0, I64 0, U64 0, nilS, I64 0, .bool false, .bool false, I64 0, U64 0, nilS, nilS, nilS] :: rmemA q (goL (B.b + 1) B.n L o) t' :: cel c 49 [I64 B.b, I64 B.n, I64 w.now, .slice i1 w.T.length j1, .slice i2 w.T.length j2] :: idO i1 j1 w.T.length w.T :: duO i2 j2 w.T.length w.T :: tlA a' c' l' :: tlA y.a0 y.k0 y.due :: tlA y.a1 y.k1 y.cut :: tlA y.a2 y.k2 y.ref :: R) wo) ?_ ?_
 ·
  refine g_draw [2, 5, 7] [2] [(0, .stab), (1, .loc), (3, .stab), (4, .stab), (2, .eff), (5, .eff), (6, .loc), (7, .eff)] [cel b5 76 ([I64 (y.kind), I64 (y.pk), U64 (y.v), tl y.a y.c y.l, I64 (y.taken), .bool (y.last), .bool (y.over), I64 (y.out), U64 (y.val), tl y.a0 y.k0 y.due, tl y.a1 y.k1 y.cut, tl y.a2 y.k2 y.ref])] mixed (by kernel_rfl) ?_
  refine go_vs rfl .none rfl (o_move rfl) (To.sat (by repeat (first | exact .nil | exact .done .refl | (apply To.cons; · (repeat (first | exact .head | apply Sel.tail))) | exact .done (by repeat (first | exact .refl | apply Drop.skip))))) ?_
  refine go_v rfl .none rfl (o_move rfl) ?_
  first | refine go_vs rfl .none rfl (o_fldS rfl) (To.sat (by repeat (first | exact .nil | exact .done .refl | (apply To.cons; · (repeat (first | exact .head | apply Sel.tail))) | exact .done (by repeat (first | exact .refl | apply Drop.skip))))) ?_ | refine go_vs rfl .none rfl (o_fld rfl) (To.sat (by repeat (first | exact .nil | exact .done .refl | (apply To.cons; · (repeat (first | exact .head | apply Sel.tail))) | exact .done (by repeat (first | exact .refl | apply Drop.skip))))) ?_
  first | refine go_vs rfl .none rfl (o_loadSA rfl rfl rfl) (To.sat (by repeat (first | exact .nil | exact .done .refl | (apply To.cons; · (repeat (first | exact .head | apply Sel.tail))) | exact .done (by repeat (first | exact .refl | apply Drop.skip))))) ?_ | refine go_vs rfl .none rfl (o_loadA rfl rfl rfl) (To.sat (by repeat (first | exact .nil | exact .done .refl | (apply To.cons; · (repeat (first | exact .head | apply Sel.tail))) | exact .done (by repeat (first | exact .refl | apply Drop.skip))))) ?_
  refine go_c rfl .none rfl (o_call rfl (kcRing_spec c B.b B.n [I64 w.now, .slice i1 w.T.length j1, .slice i2 w.T.length j2] (by omega) h7) (by repeat (first | exact .nil | (apply Part.cons; · (repeat (first | exact .head | apply Sel.tail)))))) ?_
  rintro _ R ⟨_, ⟨rfl, rfl⟩, rfl⟩
  try simp only [List.cons_append, List.nil_append]
  refine ⟨(fun _ => (To.sat (by repeat (first | exact .nil | exact .done .refl | (apply To.cons; · (repeat (first | exact .head | apply Sel.tail))) | exact .done (by repeat (first | exact .refl | apply Drop.skip)))))), ?_⟩
  refine go_c rfl .none rfl (o_call rfl (rstep_spec q (B.b + 1) B.n h1 h7 (by omega) y.pk y.v hpk hv y.a y.c y.l hl (by omega) L t (by omega) hLI o hR) (by repeat (first | exact .nil | (apply Part.cons; · (repeat (first | exact .head | apply Sel.tail)))))) ?_
  rintro _ R ⟨_, ⟨a', c', l', t', rfl, hR', hl', hln', rfl⟩, rfl⟩
  try simp only [List.cons_append, List.nil_append]
  refine ⟨(fun hG => absurd hG (by decide)), ?_⟩
  first | refine go_v rfl .none rfl (o_fldS rfl) ?_ | refine go_v rfl .none rfl (o_fld rfl) ?_
  first | refine go_u rfl .none (o_storeSA rfl rfl rfl rfl (by simp; omega) (by simp)) (fun hG => absurd hG (by decide)) ?_ | refine go_u rfl .none (o_storeA rfl rfl rfl rfl rfl) (fun hG => absurd hG (by decide)) ?_
  refine go_nil ?_
  exact fun act wo hsl st => ⟨a', c', l', t', hR', hl', hln', hsl.keep (Keep.cons rfl (Keep.cons rfl (Keep.cons rfl (Keep.cons rfl (Keep.nil))))), st.imp (To.sat (by repeat (first | exact .nil | exact .done .refl | (apply To.cons; · (repeat (first | exact .head | apply Sel.tail))) | exact .done (by repeat (first | exact .refl | apply Drop.skip)))))⟩
 ·
  rintro act wo ⟨a', c', l', t', hR', hl', hln', hsl, st⟩
  refine g_of ?_ hsl st
  clear hsl st act wo
  refine g_cut (fun act wo => ∃ (b9 : Nat) (ov : Bool) (wh ce wa wb ou va ti : Int), (ov = (goO (B.b + 1) B.n L o).over ∧ ((goO (B.b + 1) B.n L o).over = true → ou = (goO (B.b + 1) B.n L o).out ∧ va = (goO (B.b + 1) B.n L o).value)) ∧ HasSl Tryz.f38.ntmps [(9, ptr b9 0), (6, ptr b6 0), (5, ptr b5 0), (1, ptr c 0), (0, ptr q 0)] act ∧ St W0 (cel b9 113 [.bool ov, I64 wh, I64 ce, U64 wa, U64 wb, I64 ou, U64 va, U64 ti] :: cel b5 76 ([I64 (y.kind), I64 (y.pk), U64 (y.v), tl a' c' l', I64 (y.taken), .bool (y.last), .bool (y.over), I64 (y.out), U64 (y.val), tl y.a0 y.k0 y.due, tl y.a1 y.k1 y.cut, tl y.a2 y.k2 y.ref]) :: cel b6 76 [I64 0, I64 0, U64 0, nilS, I64 0, .bool false, .bool false, I64 0, U64 0, nilS, nilS, nilS] :: rmemA q (goL (B.b + 1) B.n L o) t' :: cel c 49 [I64 B.b, I64 B.n, I64 w.now, .slice i1 w.T.length j1, .slice i2 w.T.length j2] :: idO i1 j1 w.T.length w.T :: duO i2 j2 w.T.length w.T :: tlA a' c' l' :: tlA y.a0 y.k0 y.due :: tlA y.a1 y.k1 y.cut :: tlA y.a2 y.k2 y.ref :: R) wo) ?_ ?_
  ·
   refine g_treeM [1, 4, 5, 6] [1, 5] (.stab 0 (.stab 2 (.stab 3 (.eff 1 (.eff 4 (.eff 5 (.eff 6 .nil .nil) .nil) (.eff 5 (.eff 4 (.eff 6 .nil .nil) .nil) .nil)) (.eff 5 (.eff 1 (.eff 4 (.eff 6 .nil .nil) .nil) .nil) .nil))))) [cel b5 76 ([I64 (y.kind), I64 (y.pk), U64 (y.v), tl a' c' l', I64 (y.taken), .bool (y.last), .bool (y.over), I64 (y.out), U64 (y.val), tl y.a0 y.k0 y.due, tl y.a1 y.k1 y.cut, tl y.a2 y.k2 y.ref])] mixed (by kernel_rfl) ?_
   refine gt_vs rfl .none rfl (o_move rfl) (To.sat (by repeat (first | exact .nil | exact .done .refl | (apply To.cons; · (repeat (first | exact .head | apply Sel.tail))) | exact .done (by repeat (first | exact .refl | apply Drop.skip))))) ?_
   first | refine gt_vs rfl .none rfl (o_fldS rfl) (To.sat (by repeat (first | exact .nil | exact .done .refl | (apply To.cons; · (repeat (first | exact .head | apply Sel.tail))) | exact .done (by repeat (first | exact .refl | apply Drop.skip))))) ?_ | refine gt_vs rfl .none rfl (o_fld rfl) (To.sat (by repeat (first | exact .nil | exact .done .refl | (apply To.cons; · (repeat (first | exact .head | apply Sel.tail))) | exact .done (by repeat (first | exact .refl | apply Drop.skip))))) ?_
   first | refine gt_vs rfl .none rfl (o_loadSA rfl rfl rfl) (To.sat (by repeat (first | exact .nil | exact .done .refl | (apply To.cons; · (repeat (first | exact .head | apply Sel.tail))) | exact .done (by repeat (first | exact .refl | apply Drop.skip))))) ?_ | refine gt_vs rfl .none rfl (o_loadA rfl rfl rfl) (To.sat (by repeat (first | exact .nil | exact .done .refl | (apply To.cons; · (repeat (first | exact .head | apply Sel.tail))) | exact .done (by repeat (first | exact .refl | apply Drop.skip))))) ?_
   refine gt_alts ?_ ?_
   ·
    refine gt_c rfl .none rfl (o_call rfl (kcRing_spec c B.b B.n [I64 w.now, .slice i1 w.T.length j1, .slice i2 w.T.length j2] (by omega) h7) (by repeat (first | exact .nil | (apply Part.cons; · (repeat (first | exact .head | apply Sel.tail)))))) ?_
    rintro _ R ⟨_, ⟨rfl, rfl⟩, rfl⟩
    try simp only [List.cons_append, List.nil_append]
    refine ⟨(fun _ => (To.sat (by repeat (first | exact .nil | exact .done .refl | (apply To.cons; · (repeat (first | exact .head | apply Sel.tail))) | exact .done (by repeat (first | exact .refl | apply Drop.skip)))))), ?_⟩
    refine gt_alts ?_ ?_
    ·
     refine gt_c rfl .none rfl (o_call rfl (rnext_spec (B.b + 1) B.n h1 h7 (by omega) y.pk y.v hpk a' c' l' hl' (by omega) (tlA a' c' l')) (by repeat (first | exact .nil | (apply Part.cons; · (repeat (first | exact .head | apply Sel.tail)))))) ?_
     rintro _ R ⟨_, ⟨rfl, rfl⟩, rfl⟩
     try simp only [List.cons_append, List.nil_append]
     have hlk := hR'.like
     generalize nextN (B.b + 1) B.n y.pk y.v l' = wd at hlk ⊢
     obtain ⟨ov, wh, ce, wa, wb, ou, va, ti⟩ := wd
     obtain ⟨e1, -, e3⟩ := hlk
     dsimp only at e1 e3
     simp only [Wt.cells]
     refine ⟨(fun hG => absurd hG (by decide)), ?_⟩
     refine gt_n rfl .none rfl (o_alloc) ?_
     rintro _ _ ⟨b9, rfl, rfl⟩
     refine ⟨(fun _ => (To.sat (by repeat (first | exact .nil | exact .done .refl | (apply To.cons; · (repeat (first | exact .head | apply Sel.tail))) | exact .done (by repeat (first | exact .refl | apply Drop.skip)))))), ?_⟩
     first | refine gt_u rfl .none (o_storeSA rfl rfl rfl rfl (by simp; omega) (by simp)) (fun hG => absurd hG (by decide)) ?_ | refine gt_u rfl .none (o_storeA rfl rfl rfl rfl rfl) (fun hG => absurd hG (by decide)) ?_
     refine gt_nil ?_
     exact fun act wo hsl st => ⟨b9, ov, wh, ce, wa, wb, ou, va, ti, ⟨e1, fun h => ⟨(e3 h).1, (e3 h).2.1⟩⟩, hsl.keep (Keep.cons rfl (Keep.cons rfl (Keep.cons rfl (Keep.cons rfl (Keep.cons rfl (Keep.nil)))))), st.imp (To.sat (by repeat (first | exact .nil | exact .done .refl | (apply To.cons; · (repeat (first | exact .head | apply Sel.tail))) | exact .done (by repeat (first | exact .refl | apply Drop.skip)))))⟩
    ·
     refine gt_n rfl .none rfl (o_alloc) ?_
     rintro _ _ ⟨b9, rfl, rfl⟩
     refine ⟨(fun _ => (To.sat (by repeat (first | exact .nil | exact .done .refl | (apply To.cons; · (repeat (first | exact .head | apply Sel.tail))) | exact .done (by repeat (first | exact .refl | apply Drop.skip)))))), ?_⟩
     refine gt_c rfl .none rfl (o_call rfl (rnext_spec (B.b + 1) B.n h1 h7 (by omega) y.pk y.v hpk a' c' l' hl' (by omega) (tlA a' c' l')) (by repeat (first | exact .nil | (apply Part.cons; · (repeat (first | exact .head | apply Sel.tail)))))) ?_
     rintro _ R ⟨_, ⟨rfl, rfl⟩, rfl⟩
     try simp only [List.cons_append, List.nil_append]
     have hlk := hR'.like
     generalize nextN (B.b + 1) B.n y.pk y.v l' = wd at hlk ⊢
     obtain ⟨ov, wh, ce, wa, wb, ou, va, ti⟩ := wd
     obtain ⟨e1, -, e3⟩ := hlk
     dsimp only at e1 e3
     simp only [Wt.cells]
     refine ⟨(fun hG => absurd hG (by decide)), ?_⟩
     first | refine gt_u rfl .none (o_storeSA rfl rfl rfl rfl (by simp; omega) (by simp)) (fun hG => absurd hG (by decide)) ?_ | refine gt_u rfl .none (o_storeA rfl rfl rfl rfl rfl) (fun hG => absurd hG (by decide)) ?_
     refine gt_nil ?_
     exact fun act wo hsl st => ⟨b9, ov, wh, ce, wa, wb, ou, va, ti, ⟨e1, fun h => ⟨(e3 h).1, (e3 h).2.1⟩⟩, hsl.keep (Keep.cons rfl (Keep.cons rfl (Keep.cons rfl (Keep.cons rfl (Keep.cons rfl (Keep.nil)))))), st.imp (To.sat (by repeat (first | exact .nil | exact .done .refl | (apply To.cons; · (repeat (first | exact .head | apply Sel.tail))) | exact .done (by repeat (first | exact .refl | apply Drop.skip)))))⟩
   ·
    refine gt_n rfl .none rfl (o_alloc) ?_
    rintro _ _ ⟨b9, rfl, rfl⟩
    refine ⟨(fun _ => (To.sat (by repeat (first | exact .nil | exact .done .refl | (apply To.cons; · (repeat (first | exact .head | apply Sel.tail))) | exact .done (by repeat (first | exact .refl | apply Drop.skip)))))), ?_⟩
    refine gt_c rfl .none rfl (o_call rfl (kcRing_spec c B.b B.n [I64 w.now, .slice i1 w.T.length j1, .slice i2 w.T.length j2] (by omega) h7) (by repeat (first | exact .nil | (apply Part.cons; · (repeat (first | exact .head | apply Sel.tail)))))) ?_
    rintro _ R ⟨_, ⟨rfl, rfl⟩, rfl⟩
    try simp only [List.cons_append, List.nil_append]
    refine ⟨(fun _ => (To.sat (by repeat (first | exact .nil | exact .done .refl | (apply To.cons; · (repeat (first | exact .head | apply Sel.tail))) | exact .done (by repeat (first | exact .refl | apply Drop.skip)))))), ?_⟩
    refine gt_c rfl .none rfl (o_call rfl (rnext_spec (B.b + 1) B.n h1 h7 (by omega) y.pk y.v hpk a' c' l' hl' (by omega) (tlA a' c' l')) (by repeat (first | exact .nil | (apply Part.cons; · (repeat (first | exact .head | apply Sel.tail)))))) ?_
    rintro _ R ⟨_, ⟨rfl, rfl⟩, rfl⟩
    try simp only [List.cons_append, List.nil_append]
    have hlk := hR'.like
    generalize nextN (B.b + 1) B.n y.pk y.v l' = wd at hlk ⊢
    obtain ⟨ov, wh, ce, wa, wb, ou, va, ti⟩ := wd
    obtain ⟨e1, -, e3⟩ := hlk
    dsimp only at e1 e3
    simp only [Wt.cells]
    refine ⟨(fun hG => absurd hG (by decide)), ?_⟩
    first | refine gt_u rfl .none (o_storeSA rfl rfl rfl rfl (by simp; omega) (by simp)) (fun hG => absurd hG (by decide)) ?_ | refine gt_u rfl .none (o_storeA rfl rfl rfl rfl rfl) (fun hG => absurd hG (by decide)) ?_
    refine gt_nil ?_
    exact fun act wo hsl st => ⟨b9, ov, wh, ce, wa, wb, ou, va, ti, ⟨e1, fun h => ⟨(e3 h).1, (e3 h).2.1⟩⟩, hsl.keep (Keep.cons rfl (Keep.cons rfl (Keep.cons rfl (Keep.cons rfl (Keep.cons rfl (Keep.nil)))))), st.imp (To.sat (by repeat (first | exact .nil | exact .done .refl | (apply To.cons; · (repeat (first | exact .head | apply Sel.tail))) | exact .done (by repeat (first | exact .refl | apply Drop.skip)))))⟩
  ·
   rintro act wo ⟨b9, ov, wh, ce, wa, wb, ou, va, ti, ⟨e1, e3⟩, hsl, st⟩
   refine g_of ?_ hsl st
   clear hsl st act wo
   refine g_seq ?_
   refine g_seq ?_
   refine g_region ?_
   first | refine gl_v rfl (o_fldS rfl) ?_ | refine gl_v rfl (o_fld rfl) ?_
   first | refine gl_v rfl (o_load rfl rfl) ?_ | refine gl_v rfl (o_loadS rfl rfl) ?_ | refine gl_v rfl (o_loadC rfl) ?_
   refine gl_v rfl (o_not rfl) ?_
   refine gl_nil ?_
   refine ge_then ?_
   refine g_cond rfl (fun hc1 => ?_) (fun hc1 => ?_)
   ·
    first | replace hc1 := of_decide_eq_true hc1 | replace hc1 := lt_f hc1 | replace hc1 := le_f hc1 | replace hc1 := dec_f hc1 | replace hc1 := nlt_t hc1 | replace hc1 := nle_t hc1 | replace hc1 := ndec_t hc1 | replace hc1 := ndec_f hc1 | replace hc1 := nn_t hc1 | replace hc1 := nn_f hc1 | skip
    have e1 : (goO (B.b + 1) B.n L o).over = false := by rw [← e1]; first | exact hc1 | simpa using hc1
    refine g_seq ?_
    refine g_region ?_
    first | refine gl_v rfl (o_loadSA rfl rfl rfl) ?_ | refine gl_v rfl (o_loadA rfl rfl rfl) ?_
    first | refine gl_u (o_storeSA rfl rfl rfl rfl (by simp; omega) (by simp)) ?_ | refine gl_u (o_storeA rfl rfl rfl rfl rfl) ?_
    refine gl_nil ?_
    refine ge_then ?_
    refine g_ret ?_
    refine ge_then_ret ?_
    refine ret1c (.inl rfl) rfl rfl rfl rfl _ (.inl ⟨e1, ⟨a', c', l', t', rfl, hR', hl', hln', rfl⟩⟩) (To.sat (by repeat (first | exact .nil | exact .done .refl | (apply To.cons; · (repeat (first | exact .head | apply Sel.tail))) | exact .done (by repeat (first | exact .refl | apply Drop.skip)))))
   ·
    first | replace hc1 := of_decide_eq_true hc1 | replace hc1 := lt_f hc1 | replace hc1 := le_f hc1 | replace hc1 := dec_f hc1 | replace hc1 := nlt_t hc1 | replace hc1 := nle_t hc1 | replace hc1 := ndec_t hc1 | replace hc1 := ndec_f hc1 | replace hc1 := nn_t hc1 | replace hc1 := nn_f hc1 | skip
    have e1 : (goO (B.b + 1) B.n L o).over = true := by rw [← e1]; first | exact hc1 | simpa using hc1
    obtain ⟨rfl, rfl⟩ := e3 e1
    
    refine g_skip ?_
    refine ge_then ?_
    refine g_seq ?_
    refine g_seq ?_
    refine g_region ?_
    first | refine gl_v rfl (o_fldS rfl) ?_ | refine gl_v rfl (o_fld rfl) ?_
    first | refine gl_v rfl (o_load rfl rfl) ?_ | refine gl_v rfl (o_loadS rfl rfl) ?_ | refine gl_v rfl (o_loadC rfl) ?_
    refine gl_v rfl (o_neq rfl rfl) ?_
    refine gl_nil ?_
    refine ge_then ?_
    refine g_cond rfl (fun hc2 => ?_) (fun hc2 => ?_)
    ·
     first | replace hc2 := of_decide_eq_true hc2 | replace hc2 := lt_f hc2 | replace hc2 := le_f hc2 | replace hc2 := dec_f hc2 | replace hc2 := nlt_t hc2 | replace hc2 := nle_t hc2 | replace hc2 := ndec_t hc2 | replace hc2 := ndec_f hc2 | replace hc2 := nn_t hc2 | replace hc2 := nn_f hc2 | skip
     have hk3 : y.kind ≠ 3 := by simpa using hc2
     refine g_seq ?_
     refine g_region ?_
     first | refine gl_v rfl (o_fldS rfl) ?_ | refine gl_v rfl (o_fld rfl) ?_
     first | refine gl_u (o_store rfl rfl rfl rfl) ?_ | refine gl_u (o_storeS rfl rfl rfl (by first | assumption | omega | simp)) ?_
     refine gl_nil ?_
     refine ge_then ?_
     refine g_seq ?_
     refine g_region ?_
     first | refine gl_v rfl (o_fldS rfl) ?_ | refine gl_v rfl (o_fld rfl) ?_
     first | refine gl_v rfl (o_load rfl rfl) ?_ | refine gl_v rfl (o_loadS rfl rfl) ?_ | refine gl_v rfl (o_loadC rfl) ?_
     first | refine gl_v rfl (o_fldS rfl) ?_ | refine gl_v rfl (o_fld rfl) ?_
     first | refine gl_u (o_store rfl rfl rfl rfl) ?_ | refine gl_u (o_storeS rfl rfl rfl (by first | assumption | omega | simp)) ?_
     refine gl_nil ?_
     refine ge_then ?_
     refine g_seq ?_
     refine g_region ?_
     first | refine gl_v rfl (o_loadSA rfl rfl rfl) ?_ | refine gl_v rfl (o_loadA rfl rfl rfl) ?_
     first | refine gl_u (o_storeSA rfl rfl rfl rfl (by simp; omega) (by simp)) ?_ | refine gl_u (o_storeA rfl rfl rfl rfl rfl) ?_
     refine gl_nil ?_
     refine ge_then ?_
     refine g_ret ?_
     refine ge_then_ret ?_
     refine ret1c (.inl rfl) rfl rfl rfl rfl _ (.inr (.inl ⟨e1, hk3, ⟨a', c', l', t', rfl, hR', hl', hln', rfl⟩⟩)) (To.sat (by repeat (first | exact .nil | exact .done .refl | (apply To.cons; · (repeat (first | exact .head | apply Sel.tail))) | exact .done (by repeat (first | exact .refl | apply Drop.skip)))))
    ·
     first | replace hc2 := of_decide_eq_true hc2 | replace hc2 := lt_f hc2 | replace hc2 := le_f hc2 | replace hc2 := dec_f hc2 | replace hc2 := nlt_t hc2 | replace hc2 := nle_t hc2 | replace hc2 := ndec_t hc2 | replace hc2 := ndec_f hc2 | replace hc2 := nn_t hc2 | replace hc2 := nn_f hc2 | skip
     have hk3 : y.kind = 3 := by simpa using hc2
     refine g_skip ?_
     refine ge_then ?_
     refine g_seq ?_
     refine g_seq ?_
     refine g_region ?_
     first | refine gl_v rfl (o_fldS rfl) ?_ | refine gl_v rfl (o_fld rfl) ?_
     first | refine gl_v rfl (o_load rfl rfl) ?_ | refine gl_v rfl (o_loadS rfl rfl) ?_ | refine gl_v rfl (o_loadC rfl) ?_
     refine gl_v rfl (o_neq rfl rfl) ?_
     refine gl_nil ?_
     refine ge_then ?_
     refine g_cond rfl (fun hc3 => ?_) (fun hc3 => ?_)
     ·
      first | replace hc3 := of_decide_eq_true hc3 | replace hc3 := lt_f hc3 | replace hc3 := le_f hc3 | replace hc3 := dec_f hc3 | replace hc3 := nlt_t hc3 | replace hc3 := nle_t hc3 | replace hc3 := ndec_t hc3 | replace hc3 := ndec_f hc3 | replace hc3 := nn_t hc3 | replace hc3 := nn_f hc3 | skip
      have ho : (goO (B.b + 1) B.n L o).out ≠ 1 := by simpa using hc3
      refine g_seq ?_
      refine g_region ?_
      first | refine gl_v rfl (o_fldS rfl) ?_ | refine gl_v rfl (o_fld rfl) ?_
      first | refine gl_u (o_store rfl rfl rfl rfl) ?_ | refine gl_u (o_storeS rfl rfl rfl (by first | assumption | omega | simp)) ?_
      refine gl_nil ?_
      refine ge_then ?_
      refine g_seq ?_
      refine g_region ?_
      first | refine gl_v rfl (o_loadSA rfl rfl rfl) ?_ | refine gl_v rfl (o_loadA rfl rfl rfl) ?_
      first | refine gl_u (o_storeSA rfl rfl rfl rfl (by simp; omega) (by simp)) ?_ | refine gl_u (o_storeA rfl rfl rfl rfl rfl) ?_
      refine gl_nil ?_
      refine ge_then ?_
      refine g_ret ?_
      refine ge_then_ret ?_
      refine ret1c (.inl rfl) rfl rfl rfl rfl _ (.inr (.inr (.inl ⟨e1, hk3, ho, ⟨a', c', l', t', rfl, hR', hl', hln', rfl⟩⟩))) (To.sat (by repeat (first | exact .nil | exact .done .refl | (apply To.cons; · (repeat (first | exact .head | apply Sel.tail))) | exact .done (by repeat (first | exact .refl | apply Drop.skip)))))
     ·
      first | replace hc3 := of_decide_eq_true hc3 | replace hc3 := lt_f hc3 | replace hc3 := le_f hc3 | replace hc3 := dec_f hc3 | replace hc3 := nlt_t hc3 | replace hc3 := nle_t hc3 | replace hc3 := ndec_t hc3 | replace hc3 := ndec_f hc3 | replace hc3 := nn_t hc3 | replace hc3 := nn_f hc3 | skip
      have ho : (goO (B.b + 1) B.n L o).out = 1 := by simpa using hc3
      refine g_skip ?_
      refine ge_then ?_
      refine g_seq ?_
      refine g_region ?_
      refine gl_v rfl (o_move rfl) ?_
      first | refine gl_v rfl (o_loadSA rfl rfl rfl) ?_ | refine gl_v rfl (o_loadA rfl rfl rfl) ?_
      first | refine gl_v rfl (o_fldS rfl) ?_ | refine gl_v rfl (o_fld rfl) ?_
      first | refine gl_v rfl (o_load rfl rfl) ?_ | refine gl_v rfl (o_loadS rfl rfl) ?_ | refine gl_v rfl (o_loadC rfl) ?_
      refine gl_v rfl (o_quoR ((goO (B.b + 1) B.n L o).value / 4096) (u64_quo hvv.1 hvv.2) rfl rfl (by decide)) ?_
      first | refine gl_v rfl (o_fldS rfl) ?_ | refine gl_v rfl (o_fld rfl) ?_
      first | refine gl_v rfl (o_load rfl rfl) ?_ | refine gl_v rfl (o_loadS rfl rfl) ?_ | refine gl_v rfl (o_loadC rfl) ?_
      refine gl_v rfl (o_remR ((goO (B.b + 1) B.n L o).value % 4096) (Int.tmod_eq_emod_of_nonneg hvv.1) rfl rfl (by decide)) ?_
      refine gl_v rfl (o_convR ((goO (B.b + 1) B.n L o).value % 4096) (wr_i64 (by omega)) rfl) ?_
      refine gl_c rfl (o_call rfl (rasked_spec c B w hw i1 j1 i2 j2 ⟨y.kind, y.pk, y.v, a', c', l', y.taken, y.last, y.over, y.out, y.val, y.a0, y.k0, y.due, y.a1, y.k1, y.cut, y.a2, y.k2, y.ref⟩ hcu hre (goO (B.b + 1) B.n L o).value hvv.1) (by repeat (first | exact .nil | (apply Part.cons; · (repeat (first | exact .head | apply Sel.tail)))))) ?_
      rintro _ R ⟨_, ⟨i1', j1', i2', j2', a1', k1', a2', k2', rfl, rfl⟩, rfl⟩
      try simp only [List.cons_append, List.nil_append]
      refine gl_u (o_storeA rfl rfl rfl rfl rfl) ?_
      refine gl_nil ?_
      refine ge_then ?_
      refine g_seq ?_
      refine g_region ?_
      first | refine gl_v rfl (o_fldS rfl) ?_ | refine gl_v rfl (o_fld rfl) ?_
      first | refine gl_v rfl (o_load rfl rfl) ?_ | refine gl_v rfl (o_loadS rfl rfl) ?_ | refine gl_v rfl (o_loadC rfl) ?_
      refine gl_v rfl (o_addR ((y.taken + 1 : Nat) : Int) (by rw [wr_i64 (by omega)]; omega) rfl rfl) ?_
      first | refine gl_v rfl (o_fldS rfl) ?_ | refine gl_v rfl (o_fld rfl) ?_
      first | refine gl_u (o_store rfl rfl rfl rfl) ?_ | refine gl_u (o_storeS rfl rfl rfl (by first | assumption | omega | simp)) ?_
      refine gl_nil ?_
      refine ge_then ?_
      refine g_seq ?_
      refine g_draw [8] [] [(0, .loc), (1, .loc), (2, .loc), (3, .loc), (4, .loc), (5, .loc), (6, .loc), (7, .loc), (8, .eff)] [] mixed (by kernel_rfl) ?_
      first | refine go_v rfl .none rfl (o_fldS rfl) ?_ | refine go_v rfl .none rfl (o_fld rfl) ?_
      first | refine go_v rfl .none rfl (o_load rfl rfl) ?_ | refine go_v rfl .none rfl (o_loadS rfl rfl) ?_ | refine go_v rfl .none rfl (o_loadC rfl) ?_
      refine go_v rfl .none rfl (o_move rfl) ?_
      refine go_v rfl .none rfl (o_nil rfl) ?_
      first | refine go_v rfl .none rfl (o_fldS rfl) ?_ | refine go_v rfl .none rfl (o_fld rfl) ?_
      first | refine go_v rfl .none rfl (o_load rfl rfl) ?_ | refine go_v rfl .none rfl (o_loadS rfl rfl) ?_ | refine go_v rfl .none rfl (o_loadC rfl) ?_
      refine go_v rfl .none rfl (o_eql rfl rfl) ?_
      first | refine go_v rfl .none rfl (o_fldS rfl) ?_ | refine go_v rfl .none rfl (o_fld rfl) ?_
      first | refine go_u rfl .none (o_store rfl rfl rfl rfl) (fun hG => absurd hG (by decide)) ?_ | refine go_u rfl .none (o_storeS rfl rfl rfl (by first | assumption | omega | simp)) (fun hG => absurd hG (by decide)) ?_
      refine go_nil ?_
      refine ge_then ?_
      refine g_cut (fun act wo =>  HasSl Tryz.f38.ntmps [(6, ptr b6 0), (5, ptr b5 0), (1, ptr c 0), (0, ptr q 0)] act ∧ St W0 (cel b5 76 ([I64 (y.kind), I64 (2), U64 (0), nilS, I64 (((y.taken + 1 : Nat) : Int)), .bool (decide (((y.taken + 1 : Nat) : Int) = (B.n : Int))), .bool (y.over), I64 (y.out), U64 (y.val), tl y.a0 y.k0 y.due, tl a1' k1' (y.cut ++ askCut (goO (B.b + 1) B.n L o).value w), tl a2' k2' (y.ref ++ askRef (goO (B.b + 1) B.n L o).value w)]) :: cel b6 76 [I64 0, I64 0, U64 0, nilS, I64 0, .bool false, .bool false, I64 0, U64 0, nilS, nilS, nilS] :: rmemA q (goL (B.b + 1) B.n L o) t' :: cel c 49 [I64 B.b, I64 B.n, I64 (askW (goO (B.b + 1) B.n L o).value w).now, .slice i1' (askW (goO (B.b + 1) B.n L o).value w).T.length j1', .slice i2' (askW (goO (B.b + 1) B.n L o).value w).T.length j2'] :: idO i1' j1' (askW (goO (B.b + 1) B.n L o).value w).T.length (askW (goO (B.b + 1) B.n L o).value w).T :: duO i2' j2' (askW (goO (B.b + 1) B.n L o).value w).T.length (askW (goO (B.b + 1) B.n L o).value w).T :: tlA y.a0 y.k0 y.due :: tlA a1' k1' (y.cut ++ askCut (goO (B.b + 1) B.n L o).value w) :: tlA a2' k2' (y.ref ++ askRef (goO (B.b + 1) B.n L o).value w) :: R) wo) ?_ ?_
      ·
       refine g_region ?_
       refine gl_v rfl (o_build rfl rfl) ?_
       first | refine gl_v rfl (o_fldS rfl) ?_ | refine gl_v rfl (o_fld rfl) ?_
       refine gl_u (o_storeA rfl rfl rfl rfl rfl) ?_
       refine gl_nil ?_
       exact fun act wo hsl st => ⟨hsl.keep (Keep.cons rfl (Keep.cons rfl (Keep.cons rfl (Keep.cons rfl (Keep.nil))))), st.imp (To.sat (by repeat (first | exact .nil | exact .done .refl | (apply To.cons; · (repeat (first | exact .head | apply Sel.tail))) | exact .done (by repeat (first | exact .refl | apply Drop.skip)))))⟩
      ·
       rintro act wo ⟨hsl, st⟩
       refine g_of ?_ hsl st
       clear hsl st act wo
       refine g_seq ?_
       refine g_region ?_
       first | refine gl_v rfl (o_loadSA rfl rfl rfl) ?_ | refine gl_v rfl (o_loadA rfl rfl rfl) ?_
       refine gl_u (o_storeA rfl rfl rfl rfl rfl) ?_
       refine gl_nil ?_
       refine ge_then ?_
       refine g_ret ?_
       refine ret1c (.inl rfl) rfl rfl rfl rfl _ (.inr (.inr (.inr ⟨e1, hk3, ho, t', i1', j1', i2', j2', a1', k1', a2', k2', rfl, rfl⟩))) (To.sat (by repeat (first | exact .nil | exact .done .refl | (apply To.cons; · (repeat (first | exact .head | apply Sel.tail))) | exact .done (by repeat (first | exact .refl | apply Drop.skip)))))

theorem rst_go (q c : Nat) (B : CB) (L : List Int) (t : Int) (hB : CI B L) (w : Wh) (hw : WI w) (i1 : Option Addr) (j1 : Nat) (i2 : Option Addr) (j2 : Nat) (y : RK) (hov : y.over = false) (hk : y.kind ≠ 4) (hla : y.last = false) (o : RO) (hR : RelN (B.b + 1) B.n o y.pk y.v y.l) (hpk : 1 ≤ y.pk ∧ y.pk ≤ 5) (hv : 0 ≤ y.v ∧ y.v ≤ 18446744073709551615) (hl : LI y.l) (hm : y.l.length ≤ 90000) (hLI : LI L) (hvv : 0 ≤ (goO (B.b + 1) B.n L o).value ∧ (goO (B.b + 1) B.n L o).value ≤ 18446744073709551615) (hcu : y.cut.length ≤ 1000) (hre : y.ref.length ≤ 1000) (htk : y.taken ≤ 64) (hov2 : (goO (B.b + 1) B.n L o).over = false) : FnS Tryz.prog 38 [ptr q 0, ptr c 0, .agg ([I64 (y.kind), I64 (y.pk), U64 (y.v), tl y.a y.c y.l, I64 (y.taken), .bool (y.last), .bool (y.over), I64 (y.out), U64 (y.val), tl y.a0 y.k0 y.due, tl y.a1 y.k1 y.cut, tl y.a2 y.k2 y.ref]).toArray] [rmemA q L t, cel c 49 [I64 B.b, I64 B.n, I64 w.now, .slice i1 w.T.length j1, .slice i2 w.T.length j2], idO i1 j1 w.T.length w.T, duO i2 j2 w.T.length w.T, tlA y.a y.c y.l, tlA y.a0 y.k0 y.due, tlA y.a1 y.k1 y.cut, tlA y.a2 y.k2 y.ref] (fun u Bs => ∃ a' c' l' t', u = .agg ([I64 (y.kind), I64 (y.pk), U64 (y.v), tl a' c' l', I64 (y.taken), .bool (y.last), .bool (y.over), I64 (y.out), U64 (y.val), tl y.a0 y.k0 y.due, tl y.a1 y.k1 y.cut, tl y.a2 y.k2 y.ref]).toArray ∧ RelN (B.b + 1) B.n (goO (B.b + 1) B.n L o) y.pk y.v l' ∧ LI l' ∧ l'.length ≤ y.l.length + 1 ∧ Bs = [rmemA q (goL (B.b + 1) B.n L o) t', cel c 49 [I64 B.b, I64 B.n, I64 w.now, .slice i1 w.T.length j1, .slice i2 w.T.length j2], idO i1 j1 w.T.length w.T, duO i2 j2 w.T.length w.T, tlA a' c' l', tlA y.a0 y.k0 y.due, tlA y.a1 y.k1 y.cut, tlA y.a2 y.k2 y.ref]) :=
  (rst_all q c B L t hB w hw i1 j1 i2 j2 y hov hk hla o hR hpk hv hl hm hLI hvv hcu hre htk).mono fun u Bs h => by
    rcases h with ⟨g, h⟩ | ⟨g, g3, h⟩ | ⟨g, g3, g4, h⟩ | ⟨g, g3, g4, h⟩
    all_goals first | exact h | (exfalso; simp_all; done) | (exfalso; omega)
theorem rst_put (q c : Nat) (B : CB) (L : List Int) (t : Int) (hB : CI B L) (w : Wh) (hw : WI w) (i1 : Option Addr) (j1 : Nat) (i2 : Option Addr) (j2 : Nat) (y : RK) (hov : y.over = false) (hk : y.kind ≠ 4) (hla : y.last = false) (o : RO) (hR : RelN (B.b + 1) B.n o y.pk y.v y.l) (hpk : 1 ≤ y.pk ∧ y.pk ≤ 5) (hv : 0 ≤ y.v ∧ y.v ≤ 18446744073709551615) (hl : LI y.l) (hm : y.l.length ≤ 90000) (hLI : LI L) (hvv : 0 ≤ (goO (B.b + 1) B.n L o).value ∧ (goO (B.b + 1) B.n L o).value ≤ 18446744073709551615) (hcu : y.cut.length ≤ 1000) (hre : y.ref.length ≤ 1000) (htk : y.taken ≤ 64) (hov2 : (goO (B.b + 1) B.n L o).over = true) (hk3 : y.kind ≠ 3) : FnS Tryz.prog 38 [ptr q 0, ptr c 0, .agg ([I64 (y.kind), I64 (y.pk), U64 (y.v), tl y.a y.c y.l, I64 (y.taken), .bool (y.last), .bool (y.over), I64 (y.out), U64 (y.val), tl y.a0 y.k0 y.due, tl y.a1 y.k1 y.cut, tl y.a2 y.k2 y.ref]).toArray] [rmemA q L t, cel c 49 [I64 B.b, I64 B.n, I64 w.now, .slice i1 w.T.length j1, .slice i2 w.T.length j2], idO i1 j1 w.T.length w.T, duO i2 j2 w.T.length w.T, tlA y.a y.c y.l, tlA y.a0 y.k0 y.due, tlA y.a1 y.k1 y.cut, tlA y.a2 y.k2 y.ref] (fun u Bs => ∃ a' c' l' t', u = .agg ([I64 (y.kind), I64 (y.pk), U64 (y.v), tl a' c' l', I64 (y.taken), .bool (y.last), .bool (true), I64 ((goO (B.b + 1) B.n L o).out), U64 (y.val), tl y.a0 y.k0 y.due, tl y.a1 y.k1 y.cut, tl y.a2 y.k2 y.ref]).toArray ∧ RelN (B.b + 1) B.n (goO (B.b + 1) B.n L o) y.pk y.v l' ∧ LI l' ∧ l'.length ≤ y.l.length + 1 ∧ Bs = [rmemA q (goL (B.b + 1) B.n L o) t', cel c 49 [I64 B.b, I64 B.n, I64 w.now, .slice i1 w.T.length j1, .slice i2 w.T.length j2], idO i1 j1 w.T.length w.T, duO i2 j2 w.T.length w.T, tlA a' c' l', tlA y.a0 y.k0 y.due, tlA y.a1 y.k1 y.cut, tlA y.a2 y.k2 y.ref]) :=
  (rst_all q c B L t hB w hw i1 j1 i2 j2 y hov hk hla o hR hpk hv hl hm hLI hvv hcu hre htk).mono fun u Bs h => by
    rcases h with ⟨g, h⟩ | ⟨g, g3, h⟩ | ⟨g, g3, g4, h⟩ | ⟨g, g3, g4, h⟩
    all_goals first | exact h | (exfalso; simp_all; done) | (exfalso; omega)
theorem rst_no (q c : Nat) (B : CB) (L : List Int) (t : Int) (hB : CI B L) (w : Wh) (hw : WI w) (i1 : Option Addr) (j1 : Nat) (i2 : Option Addr) (j2 : Nat) (y : RK) (hov : y.over = false) (hk : y.kind ≠ 4) (hla : y.last = false) (o : RO) (hR : RelN (B.b + 1) B.n o y.pk y.v y.l) (hpk : 1 ≤ y.pk ∧ y.pk ≤ 5) (hv : 0 ≤ y.v ∧ y.v ≤ 18446744073709551615) (hl : LI y.l) (hm : y.l.length ≤ 90000) (hLI : LI L) (hvv : 0 ≤ (goO (B.b + 1) B.n L o).value ∧ (goO (B.b + 1) B.n L o).value ≤ 18446744073709551615) (hcu : y.cut.length ≤ 1000) (hre : y.ref.length ≤ 1000) (htk : y.taken ≤ 64) (hov2 : (goO (B.b + 1) B.n L o).over = true) (hk3 : y.kind = 3) (ho : (goO (B.b + 1) B.n L o).out ≠ 1) : FnS Tryz.prog 38 [ptr q 0, ptr c 0, .agg ([I64 (y.kind), I64 (y.pk), U64 (y.v), tl y.a y.c y.l, I64 (y.taken), .bool (y.last), .bool (y.over), I64 (y.out), U64 (y.val), tl y.a0 y.k0 y.due, tl y.a1 y.k1 y.cut, tl y.a2 y.k2 y.ref]).toArray] [rmemA q L t, cel c 49 [I64 B.b, I64 B.n, I64 w.now, .slice i1 w.T.length j1, .slice i2 w.T.length j2], idO i1 j1 w.T.length w.T, duO i2 j2 w.T.length w.T, tlA y.a y.c y.l, tlA y.a0 y.k0 y.due, tlA y.a1 y.k1 y.cut, tlA y.a2 y.k2 y.ref] (fun u Bs => ∃ a' c' l' t', u = .agg ([I64 (y.kind), I64 (y.pk), U64 (y.v), tl a' c' l', I64 (y.taken), .bool (true), .bool (y.over), I64 (y.out), U64 (y.val), tl y.a0 y.k0 y.due, tl y.a1 y.k1 y.cut, tl y.a2 y.k2 y.ref]).toArray ∧ RelN (B.b + 1) B.n (goO (B.b + 1) B.n L o) y.pk y.v l' ∧ LI l' ∧ l'.length ≤ y.l.length + 1 ∧ Bs = [rmemA q (goL (B.b + 1) B.n L o) t', cel c 49 [I64 B.b, I64 B.n, I64 w.now, .slice i1 w.T.length j1, .slice i2 w.T.length j2], idO i1 j1 w.T.length w.T, duO i2 j2 w.T.length w.T, tlA a' c' l', tlA y.a0 y.k0 y.due, tlA y.a1 y.k1 y.cut, tlA y.a2 y.k2 y.ref]) :=
  (rst_all q c B L t hB w hw i1 j1 i2 j2 y hov hk hla o hR hpk hv hl hm hLI hvv hcu hre htk).mono fun u Bs h => by
    rcases h with ⟨g, h⟩ | ⟨g, g3, h⟩ | ⟨g, g3, g4, h⟩ | ⟨g, g3, g4, h⟩
    all_goals first | exact h | (exfalso; simp_all; done) | (exfalso; omega)
theorem rst_yes (q c : Nat) (B : CB) (L : List Int) (t : Int) (hB : CI B L) (w : Wh) (hw : WI w) (i1 : Option Addr) (j1 : Nat) (i2 : Option Addr) (j2 : Nat) (y : RK) (hov : y.over = false) (hk : y.kind ≠ 4) (hla : y.last = false) (o : RO) (hR : RelN (B.b + 1) B.n o y.pk y.v y.l) (hpk : 1 ≤ y.pk ∧ y.pk ≤ 5) (hv : 0 ≤ y.v ∧ y.v ≤ 18446744073709551615) (hl : LI y.l) (hm : y.l.length ≤ 90000) (hLI : LI L) (hvv : 0 ≤ (goO (B.b + 1) B.n L o).value ∧ (goO (B.b + 1) B.n L o).value ≤ 18446744073709551615) (hcu : y.cut.length ≤ 1000) (hre : y.ref.length ≤ 1000) (htk : y.taken ≤ 64) (hov2 : (goO (B.b + 1) B.n L o).over = true) (hk3 : y.kind = 3) (ho : (goO (B.b + 1) B.n L o).out = 1) : FnS Tryz.prog 38 [ptr q 0, ptr c 0, .agg ([I64 (y.kind), I64 (y.pk), U64 (y.v), tl y.a y.c y.l, I64 (y.taken), .bool (y.last), .bool (y.over), I64 (y.out), U64 (y.val), tl y.a0 y.k0 y.due, tl y.a1 y.k1 y.cut, tl y.a2 y.k2 y.ref]).toArray] [rmemA q L t, cel c 49 [I64 B.b, I64 B.n, I64 w.now, .slice i1 w.T.length j1, .slice i2 w.T.length j2], idO i1 j1 w.T.length w.T, duO i2 j2 w.T.length w.T, tlA y.a y.c y.l, tlA y.a0 y.k0 y.due, tlA y.a1 y.k1 y.cut, tlA y.a2 y.k2 y.ref] (fun u Bs => ∃ t' i1' j1' i2' j2' a1' k1' a2' k2', u = .agg ([I64 (y.kind), I64 (2), U64 (0), nilS, I64 (((y.taken + 1 : Nat) : Int)), .bool (decide (((y.taken + 1 : Nat) : Int) = (B.n : Int))), .bool (y.over), I64 (y.out), U64 (y.val), tl y.a0 y.k0 y.due, tl a1' k1' (y.cut ++ askCut (goO (B.b + 1) B.n L o).value w), tl a2' k2' (y.ref ++ askRef (goO (B.b + 1) B.n L o).value w)]).toArray ∧ Bs = [rmemA q (goL (B.b + 1) B.n L o) t', cel c 49 [I64 B.b, I64 B.n, I64 (askW (goO (B.b + 1) B.n L o).value w).now, .slice i1' (askW (goO (B.b + 1) B.n L o).value w).T.length j1', .slice i2' (askW (goO (B.b + 1) B.n L o).value w).T.length j2'], idO i1' j1' (askW (goO (B.b + 1) B.n L o).value w).T.length (askW (goO (B.b + 1) B.n L o).value w).T, duO i2' j2' (askW (goO (B.b + 1) B.n L o).value w).T.length (askW (goO (B.b + 1) B.n L o).value w).T, tlA y.a0 y.k0 y.due, tlA a1' k1' (y.cut ++ askCut (goO (B.b + 1) B.n L o).value w), tlA a2' k2' (y.ref ++ askRef (goO (B.b + 1) B.n L o).value w)]) :=
  (rst_all q c B L t hB w hw i1 j1 i2 j2 y hov hk hla o hR hpk hv hl hm hLI hvv hcu hre htk).mono fun u Bs h => by
    rcases h with ⟨g, h⟩ | ⟨g, g3, h⟩ | ⟨g, g3, g4, h⟩ | ⟨g, g3, g4, h⟩
    all_goals first | exact h | (exfalso; simp_all; done) | (exfalso; omega)
theorem fns_pre {P : Program} {f : FuncId} {args : List Value} {As As' : List Assn} {post : Value → List Assn → Prop} (h : FnS P f args As post) (g : ∀ R h, Sat (As' ++ R) h → Sat (As ++ R) h) : FnS P f args As' post :=
  fun W0 R w s => h W0 R w (s.imp fun h s => g R h s)
theorem idO_tl {a : Option Addr} {c : Nat} {T : List Tm} : idO a c T.length T = tlA a c (T.map (·.id)) := by
  unfold idO tlA; rw [List.length_map, List.map_map]; rfl

theorem val_in {o : RO} (h : OI o) : 0 ≤ o.value ∧ o.value ≤ 18446744073709551615 := by unfold RO.value; split; exact ⟨h.v0, h.v1⟩; decide
theorem rel_next {B : CB} {w : Wh} {y : RK} {left : Nat} {a c a1 k1 a2 k2} {cut ref : List Int} (h1 : y.kind = 3) (h2 : y.taken + left = B.n) (h3 : 1 ≤ left) : RelPh B w (⟨y.kind, 2, 0, a, c, [], y.taken + 1, decide (((y.taken + 1 : Nat) : Int) = (B.n : Int)), y.over, y.out, y.val, y.a0, y.k0, y.due, a1, k1, cut, a2, k2, ref⟩ : RK) (nextT (left - 1) w) := by
  unfold nextT
  split
  · exact ⟨h1, decide_eq_true (by omega), rfl⟩
  · exact ⟨h1, decide_eq_false (by omega), rfl, RelN.start (B.b + 1) B.n 2 0 (by omega), by show y.taken + 1 + (left - 1) = B.n; omega, by omega⟩
set_option maxHeartbeats 2000000 in
/-- the document's step -/
theorem kref_spec (q c : Nat) (B : CB) (L : List Int) (t : Int) (hB : CI B L) (hLI : LI L) (w : Wh) (hw : WI w) (co : CO) (hc : COI co) (y : RK) (hr : RelK B w co y) (hm : y.l.length ≤ 90000) : FnS Tryz.prog 38 [ptr q 0, ptr c 0, .agg (kV y).toArray] [rmemA q L t, rclk c B w, kA y] (fun u Bs => ∃ (y' : RK) (t' : Int), u = .agg (kV y').toArray ∧ y'.kind = y.kind ∧ y'.l.length ≤ y.l.length + 1 ∧ RelK B (goC B L w co).2.1 (goC B L w co).2.2 y' ∧ Bs = [rmemA q (goC B L w co).1 t', rclk c B (goC B L w co).2.1, kA y']) := by
  by_cases hov : co.over = true
  · rw [goC_over hov]
    refine fns_sel (ι := Option Addr × Nat × Option Addr × Nat) (.tail .head) (fun e _ => ?_)
    obtain ⟨i1, j1, i2, j2⟩ := e
    simp only [List.cons_append, List.nil_append]
    refine fns_sel (ι := Unit) (by repeat (first | exact .head | apply Sel.tail)) (fun _ _ => ?_)
    simp only [List.cons_append, List.nil_append]
    refine fns_pre (fns_conv (rst_over q c B L t hB w hw i1 j1 i2 j2 y (hr.over.trans hov)) (fun u Bs hp => ?_)) (fun R => by simp only [List.cons_append, List.nil_append]; exact (To.sat (by repeat (first | exact .nil | exact .done .refl | (apply To.cons; · (repeat (first | exact .head | apply Sel.tail))) | exact .done (by repeat (first | exact .refl | apply Drop.skip))))))
    obtain ⟨rfl, rfl⟩ := hp
    refine ⟨_, ⟨y, t, rfl, rfl, Nat.le_succ _, hr, rfl⟩, fun R h s => ?_⟩
    simp only [List.cons_append, List.nil_append] at s
    simp only [List.cons_append, List.nil_append]
    exact Sat.tail (fun h s => rclk_close i1 j1 i2 j2 (R := kA y :: R) (fun h s => Sat.tail (fun h s => Sat.tail (fun h s => Sat.tail (fun h s => kA_close (y := y) (To.sat (by repeat (first | exact .nil | exact .done .refl | (apply To.cons; · (repeat (first | exact .head | apply Sel.tail))) | exact .done (by repeat (first | exact .refl | apply Drop.skip))))) h s) s) s) s) h s) s
  · have hov : co.over = false := by simpa using hov
    have e : goC B L w co = stepC B L w co := by unfold goC; rw [if_neg (by simp [hov])]
    have ho0 : co.out = 0 := by simpa [CO.over] using hov
    have hov' : y.over = false := hr.over.trans hov
    obtain ⟨hph, hv0, hd0⟩ := hc.run ho0
    have hp := hr.ph ho0
    rw [e]
    obtain ⟨ph, out, val, due, cut, ref⟩ := co
    have hcu : cut.length ≤ 1000 := by have := hc.tot; simp only at this; omega
    have hre : ref.length ≤ 1000 := by have := hc.tot; simp only at this; omega
    obtain rfl : out = 0 := ho0
    obtain rfl : val = 0 := hv0
    obtain rfl : due = [] := hd0
    cases ph with
    | put o =>
      obtain ⟨p1, p2, p3, p4⟩ := hp
      have hvv := val_in (goO_in (b := B.b + 1) (n := B.n) hLI hph.1)
      have hcuy : y.cut.length ≤ 1000 := by rw [hr.cut]; exact hcu
      have hrey : y.ref.length ≤ 1000 := by rw [hr.ref]; exact hre
      cases hov2 : (goO (B.b + 1) B.n L o).over with
      | false =>
        have hz2 : (goO (B.b + 1) B.n L o).out = 0 := by simpa [RO.over] using hov2
        refine fns_sel (ι := Option Addr × Nat × Option Addr × Nat) (.tail .head) (fun e _ => ?_)
        obtain ⟨i1, j1, i2, j2⟩ := e
        simp only [List.cons_append, List.nil_append]
        refine fns_sel (ι := Unit) (by repeat (first | exact .head | apply Sel.tail)) (fun _ _ => ?_)
        simp only [List.cons_append, List.nil_append]
        refine fns_pre (fns_conv (rst_go q c B L t hB w hw i1 j1 i2 j2 y hov' (by omega) p2 o (by rw [p3]; exact p4) (by omega) hr.vb hr.li hm hLI hvv hcuy hrey hr.tk hov2) (fun u Bs hp => ?_)) (fun R => by simp only [List.cons_append, List.nil_append]; exact (To.sat (by repeat (first | exact .nil | exact .done .refl | (apply To.cons; · (repeat (first | exact .head | apply Sel.tail))) | exact .done (by repeat (first | exact .refl | apply Drop.skip))))))
        obtain ⟨a', c', l', t', rfl, hR', hl', hln', rfl⟩ := hp
        refine ⟨_, ⟨(⟨y.kind, y.pk, y.v, a', c', l', y.taken, y.last, y.over, y.out, y.val, y.a0, y.k0, y.due, y.a1, y.k1, y.cut, y.a2, y.k2, y.ref⟩ : RK), t', rfl, rfl, hln', ⟨by show y.over = _; rw [hov']; exact hov2.symm, by show y.out = _; rw [hr.out]; exact hz2.symm, hr.val, hr.due, hr.cut, hr.ref, fun _ => ⟨p1, p2, p3, by rw [p3] at hR'; exact hR'⟩, hr.vb, hl', hr.tk⟩, rfl⟩, fun R h s => ?_⟩
        simp only [List.cons_append, List.nil_append] at s
        simp only [List.cons_append, List.nil_append]
        exact Sat.tail (fun h s => rclk_close i1 j1 i2 j2 (R := kA (⟨y.kind, y.pk, y.v, a', c', l', y.taken, y.last, y.over, y.out, y.val, y.a0, y.k0, y.due, y.a1, y.k1, y.cut, y.a2, y.k2, y.ref⟩ : RK) :: R) (fun h s => Sat.tail (fun h s => Sat.tail (fun h s => Sat.tail (fun h s => kA_close (y := (⟨y.kind, y.pk, y.v, a', c', l', y.taken, y.last, y.over, y.out, y.val, y.a0, y.k0, y.due, y.a1, y.k1, y.cut, y.a2, y.k2, y.ref⟩ : RK)) (To.sat (by repeat (first | exact .nil | exact .done .refl | (apply To.cons; · (repeat (first | exact .head | apply Sel.tail))) | exact .done (by repeat (first | exact .refl | apply Drop.skip))))) h s) s) s) s) h s) s
      | true =>
        have hz2 : (goO (B.b + 1) B.n L o).out ≠ 0 := by simpa [RO.over] using hov2
        refine fns_sel (ι := Option Addr × Nat × Option Addr × Nat) (.tail .head) (fun e _ => ?_)
        obtain ⟨i1, j1, i2, j2⟩ := e
        simp only [List.cons_append, List.nil_append]
        refine fns_sel (ι := Unit) (by repeat (first | exact .head | apply Sel.tail)) (fun _ _ => ?_)
        simp only [List.cons_append, List.nil_append]
        refine fns_pre (fns_conv (rst_put q c B L t hB w hw i1 j1 i2 j2 y hov' (by omega) p2 o (by rw [p3]; exact p4) (by omega) hr.vb hr.li hm hLI hvv hcuy hrey hr.tk hov2 (by omega)) (fun u Bs hp => ?_)) (fun R => by simp only [List.cons_append, List.nil_append]; exact (To.sat (by repeat (first | exact .nil | exact .done .refl | (apply To.cons; · (repeat (first | exact .head | apply Sel.tail))) | exact .done (by repeat (first | exact .refl | apply Drop.skip))))))
        obtain ⟨a', c', l', t', rfl, hR', hl', hln', rfl⟩ := hp
        refine ⟨_, ⟨(⟨y.kind, y.pk, y.v, a', c', l', y.taken, y.last, true, (goO (B.b + 1) B.n L o).out, y.val, y.a0, y.k0, y.due, y.a1, y.k1, y.cut, y.a2, y.k2, y.ref⟩ : RK), t', rfl, rfl, hln', ⟨hov2.symm, rfl, hr.val, hr.due, hr.cut, hr.ref, fun h => absurd h hz2, hr.vb, hl', hr.tk⟩, rfl⟩, fun R h s => ?_⟩
        simp only [List.cons_append, List.nil_append] at s
        simp only [List.cons_append, List.nil_append]
        exact Sat.tail (fun h s => rclk_close i1 j1 i2 j2 (R := kA (⟨y.kind, y.pk, y.v, a', c', l', y.taken, y.last, true, (goO (B.b + 1) B.n L o).out, y.val, y.a0, y.k0, y.due, y.a1, y.k1, y.cut, y.a2, y.k2, y.ref⟩ : RK) :: R) (fun h s => Sat.tail (fun h s => Sat.tail (fun h s => Sat.tail (fun h s => kA_close (y := (⟨y.kind, y.pk, y.v, a', c', l', y.taken, y.last, true, (goO (B.b + 1) B.n L o).out, y.val, y.a0, y.k0, y.due, y.a1, y.k1, y.cut, y.a2, y.k2, y.ref⟩ : RK)) (To.sat (by repeat (first | exact .nil | exact .done .refl | (apply To.cons; · (repeat (first | exact .head | apply Sel.tail))) | exact .done (by repeat (first | exact .refl | apply Drop.skip))))) h s) s) s) s) h s) s
    | now =>
      obtain ⟨p1, p2, p3⟩ := hp
      have hd0 : ([] : List Int) = [] := rfl
      refine fns_sel (ι := Option Addr × Nat × Option Addr × Nat) (.tail .head) (fun e _ => ?_)
      obtain ⟨i1, j1, i2, j2⟩ := e
      simp only [List.cons_append, List.nil_append]
      refine fns_sel (ι := Unit) (by repeat (first | exact .head | apply Sel.tail)) (fun _ _ => ?_)
      simp only [List.cons_append, List.nil_append]
      refine fns_pre (fns_conv (rst_now q c B L t hB w hw i1 j1 i2 j2 y hov' p1) (fun u Bs hp => ?_)) (fun R => by simp only [List.cons_append, List.nil_append]; exact (To.sat (by repeat (first | exact .nil | exact .done .refl | (apply To.cons; · (repeat (first | exact .head | apply Sel.tail))) | exact .done (by repeat (first | exact .refl | apply Drop.skip))))))
      obtain ⟨rfl, rfl⟩ := hp
      refine ⟨_, ⟨(⟨4, 0, 0, none, 0, [], 0, false, true, 1, L.getD B.b 0, none, 0, [], none, 0, [], none, 0, []⟩ : RK), tup t, rfl, p1.symm, Nat.zero_le _, ⟨rfl, rfl, rfl, hd0.symm, by show [] = cut; rw [← p2]; exact hr.cut, by show [] = ref; rw [← p3]; exact hr.ref, (fun h => by cases h), (show (0 : Int) ≤ 0 ∧ (0 : Int) ≤ 18446744073709551615 by decide), (fun x hx => by cases hx), Nat.zero_le _⟩, rfl⟩, fun R h s => ?_⟩
      simp only [List.cons_append, List.nil_append] at s
      simp only [List.cons_append, List.nil_append]
      exact Sat.tail (fun h s => rclk_close i1 j1 i2 j2 (R := kA (⟨4, 0, 0, none, 0, [], 0, false, true, 1, L.getD B.b 0, none, 0, [], none, 0, [], none, 0, []⟩ : RK) :: R) (fun h s => Sat.tail (fun h s => Sat.tail (fun h s => Sat.tail (fun h s => kA_close (y := (⟨4, 0, 0, none, 0, [], 0, false, true, 1, L.getD B.b 0, none, 0, [], none, 0, [], none, 0, []⟩ : RK)) (fun h s => own_nil0 h (own_nil0 h (own_nil0 h (own_nil0 h ((To.sat (by repeat (first | exact .nil | exact .done .refl | (apply To.cons; · (repeat (first | exact .head | apply Sel.tail))) | exact .done (by repeat (first | exact .refl | apply Drop.skip))))) h s))))) h s) s) s) s) h s) s
    | take left o =>
      obtain ⟨p1, p2, p3, p4, p5, p6⟩ := hp
      obtain ⟨hi, hz, hpc, hl⟩ := hph
      have hvv := val_in (goO_in (b := B.b + 1) (n := B.n) hLI hi)
      have hcuy : y.cut.length ≤ 1000 := by rw [hr.cut]; exact hcu
      have hrey : y.ref.length ≤ 1000 := by rw [hr.ref]; exact hre
      cases hov2 : (goO (B.b + 1) B.n L o).over with
      | false =>
        simp only [stepC, hov2, Bool.false_eq_true, if_false]
        refine fns_sel (ι := Option Addr × Nat × Option Addr × Nat) (.tail .head) (fun e _ => ?_)
        obtain ⟨i1, j1, i2, j2⟩ := e
        simp only [List.cons_append, List.nil_append]
        refine fns_sel (ι := Unit) (by repeat (first | exact .head | apply Sel.tail)) (fun _ _ => ?_)
        simp only [List.cons_append, List.nil_append]
        refine fns_pre (fns_conv (rst_go q c B L t hB w hw i1 j1 i2 j2 y hov' (by omega) p2 o (by rw [p3]; exact p4) (by omega) hr.vb hr.li hm hLI hvv hcuy hrey hr.tk hov2) (fun u Bs hp => ?_)) (fun R => by simp only [List.cons_append, List.nil_append]; exact (To.sat (by repeat (first | exact .nil | exact .done .refl | (apply To.cons; · (repeat (first | exact .head | apply Sel.tail))) | exact .done (by repeat (first | exact .refl | apply Drop.skip))))))
        obtain ⟨a', c', l', t', rfl, hR', hl', hln', rfl⟩ := hp
        refine ⟨_, ⟨(⟨y.kind, y.pk, y.v, a', c', l', y.taken, y.last, y.over, y.out, y.val, y.a0, y.k0, y.due, y.a1, y.k1, y.cut, y.a2, y.k2, y.ref⟩ : RK), t', rfl, rfl, hln', ⟨by show y.over = _; rw [hov']; rfl, hr.out, hr.val, hr.due, hr.cut, hr.ref, fun _ => ⟨p1, p2, p3, by rw [p3] at hR'; exact hR', p5, p6⟩, hr.vb, hl', hr.tk⟩, rfl⟩, fun R h s => ?_⟩
        simp only [List.cons_append, List.nil_append] at s
        simp only [List.cons_append, List.nil_append]
        exact Sat.tail (fun h s => rclk_close i1 j1 i2 j2 (R := kA (⟨y.kind, y.pk, y.v, a', c', l', y.taken, y.last, y.over, y.out, y.val, y.a0, y.k0, y.due, y.a1, y.k1, y.cut, y.a2, y.k2, y.ref⟩ : RK) :: R) (fun h s => Sat.tail (fun h s => Sat.tail (fun h s => Sat.tail (fun h s => kA_close (y := (⟨y.kind, y.pk, y.v, a', c', l', y.taken, y.last, y.over, y.out, y.val, y.a0, y.k0, y.due, y.a1, y.k1, y.cut, y.a2, y.k2, y.ref⟩ : RK)) (To.sat (by repeat (first | exact .nil | exact .done .refl | (apply To.cons; · (repeat (first | exact .head | apply Sel.tail))) | exact .done (by repeat (first | exact .refl | apply Drop.skip))))) h s) s) s) s) h s) s
      | true =>
        by_cases h1 : (goO (B.b + 1) B.n L o).out = 1
        · skip
          simp only [stepC, hov2, if_true, h1]
          refine fns_sel (ι := Option Addr × Nat × Option Addr × Nat) (.tail .head) (fun e _ => ?_)
          obtain ⟨i1, j1, i2, j2⟩ := e
          simp only [List.cons_append, List.nil_append]
          refine fns_sel (ι := Unit) (by repeat (first | exact .head | apply Sel.tail)) (fun _ _ => ?_)
          simp only [List.cons_append, List.nil_append]
          refine fns_pre (fns_conv (rst_yes q c B L t hB w hw i1 j1 i2 j2 y hov' (by omega) p2 o (by rw [p3]; exact p4) (by omega) hr.vb hr.li hm hLI hvv hcuy hrey hr.tk hov2 p1 h1) (fun u Bs hp => ?_)) (fun R => by simp only [List.cons_append, List.nil_append]; exact (To.sat (by repeat (first | exact .nil | exact .done .refl | (apply To.cons; · (repeat (first | exact .head | apply Sel.tail))) | exact .done (by repeat (first | exact .refl | apply Drop.skip))))))
          obtain ⟨t', i1', j1', i2', j2', a1', k1', a2', k2', rfl, rfl⟩ := hp
          refine ⟨_, ⟨(⟨y.kind, 2, 0, none, 0, [], (y.taken + 1), (decide (((y.taken + 1 : Nat) : Int) = (B.n : Int))), y.over, y.out, y.val, y.a0, y.k0, y.due, a1', k1', (y.cut ++ askCut (goO (B.b + 1) B.n L o).value w), a2', k2', (y.ref ++ askRef (goO (B.b + 1) B.n L o).value w)⟩ : RK), t', rfl, rfl, Nat.zero_le _, ⟨by show y.over = _; rw [hov']; rfl, hr.out, hr.val, hr.due, by show y.cut ++ _ = cut ++ _; rw [hr.cut], by show y.ref ++ _ = ref ++ _; rw [hr.ref], fun _ => rel_next p1 p5 p6, (show (0 : Int) ≤ 0 ∧ (0 : Int) ≤ 18446744073709551615 by decide), (fun x hx => by cases hx), by show y.taken + 1 ≤ 64; have := hB.m64; omega⟩, rfl⟩, fun R h s => ?_⟩
          simp only [List.cons_append, List.nil_append] at s
          simp only [List.cons_append, List.nil_append]
          exact Sat.tail (fun h s => rclk_close i1' j1' i2' j2' (R := kA (⟨y.kind, 2, 0, none, 0, [], (y.taken + 1), (decide (((y.taken + 1 : Nat) : Int) = (B.n : Int))), y.over, y.out, y.val, y.a0, y.k0, y.due, a1', k1', (y.cut ++ askCut (goO (B.b + 1) B.n L o).value w), a2', k2', (y.ref ++ askRef (goO (B.b + 1) B.n L o).value w)⟩ : RK) :: R) (fun h s => Sat.tail (fun h s => Sat.tail (fun h s => Sat.tail (fun h s => kA_close (y := (⟨y.kind, 2, 0, none, 0, [], (y.taken + 1), (decide (((y.taken + 1 : Nat) : Int) = (B.n : Int))), y.over, y.out, y.val, y.a0, y.k0, y.due, a1', k1', (y.cut ++ askCut (goO (B.b + 1) B.n L o).value w), a2', k2', (y.ref ++ askRef (goO (B.b + 1) B.n L o).value w)⟩ : RK)) (fun h s => own_nil0 h ((To.sat (by repeat (first | exact .nil | exact .done .refl | (apply To.cons; · (repeat (first | exact .head | apply Sel.tail))) | exact .done (by repeat (first | exact .refl | apply Drop.skip))))) h s)) h s) s) s) s) h s) s
        · simp only [stepC, hov2, if_true, h1, if_false]
          refine fns_sel (ι := Option Addr × Nat × Option Addr × Nat) (.tail .head) (fun e _ => ?_)
          obtain ⟨i1, j1, i2, j2⟩ := e
          simp only [List.cons_append, List.nil_append]
          refine fns_sel (ι := Unit) (by repeat (first | exact .head | apply Sel.tail)) (fun _ _ => ?_)
          simp only [List.cons_append, List.nil_append]
          refine fns_pre (fns_conv (rst_no q c B L t hB w hw i1 j1 i2 j2 y hov' (by omega) p2 o (by rw [p3]; exact p4) (by omega) hr.vb hr.li hm hLI hvv hcuy hrey hr.tk hov2 p1 h1) (fun u Bs hp => ?_)) (fun R => by simp only [List.cons_append, List.nil_append]; exact (To.sat (by repeat (first | exact .nil | exact .done .refl | (apply To.cons; · (repeat (first | exact .head | apply Sel.tail))) | exact .done (by repeat (first | exact .refl | apply Drop.skip))))))
          obtain ⟨a', c', l', t', rfl, hR', hl', hln', rfl⟩ := hp
          refine ⟨_, ⟨(⟨y.kind, y.pk, y.v, a', c', l', y.taken, true, y.over, y.out, y.val, y.a0, y.k0, y.due, y.a1, y.k1, y.cut, y.a2, y.k2, y.ref⟩ : RK), t', rfl, rfl, hln', ⟨by show y.over = _; rw [hov']; rfl, hr.out, hr.val, hr.due, hr.cut, hr.ref, fun _ => ⟨p1, rfl, rfl⟩, hr.vb, hl', hr.tk⟩, rfl⟩, fun R h s => ?_⟩
          simp only [List.cons_append, List.nil_append] at s
          simp only [List.cons_append, List.nil_append]
          exact Sat.tail (fun h s => rclk_close i1 j1 i2 j2 (R := kA (⟨y.kind, y.pk, y.v, a', c', l', y.taken, true, y.over, y.out, y.val, y.a0, y.k0, y.due, y.a1, y.k1, y.cut, y.a2, y.k2, y.ref⟩ : RK) :: R) (fun h s => Sat.tail (fun h s => Sat.tail (fun h s => Sat.tail (fun h s => kA_close (y := (⟨y.kind, y.pk, y.v, a', c', l', y.taken, true, y.over, y.out, y.val, y.a0, y.k0, y.due, y.a1, y.k1, y.cut, y.a2, y.k2, y.ref⟩ : RK)) (To.sat (by repeat (first | exact .nil | exact .done .refl | (apply To.cons; · (repeat (first | exact .head | apply Sel.tail))) | exact .done (by repeat (first | exact .refl | apply Drop.skip))))) h s) s) s) s) h s) s
    | tick v =>
      obtain ⟨p1, p2, rfl⟩ := hp
      refine fns_sel (ι := Option Addr × Nat × Option Addr × Nat) (.tail .head) (fun e _ => ?_)
      obtain ⟨i1, j1, i2, j2⟩ := e
      simp only [List.cons_append, List.nil_append]
      refine fns_sel (ι := Unit) (by repeat (first | exact .head | apply Sel.tail)) (fun _ _ => ?_)
      simp only [List.cons_append, List.nil_append]
      refine fns_pre (fns_conv (rst_last q c B L t hB w hw i1 j1 i2 j2 y hov' p1 p2) (fun u Bs hp => ?_)) (fun R => by simp only [List.cons_append, List.nil_append]; exact (To.sat (by repeat (first | exact .nil | exact .done .refl | (apply To.cons; · (repeat (first | exact .head | apply Sel.tail))) | exact .done (by repeat (first | exact .refl | apply Drop.skip))))))
      obtain ⟨i1', j1', i2', j2', a3, c3, rfl, rfl⟩ := hp
      rw [idO_tl (a := a3) (c := c3)]
      refine ⟨_, ⟨(⟨y.kind, y.pk, y.v, y.a, y.c, y.l, y.taken, y.last, true, 1, y.val, a3, c3, ((dueL w).map (·.id)), y.a1, y.k1, y.cut, y.a2, y.k2, y.ref⟩ : RK), tup t, by simp only [kV, tl, List.length_map],  rfl, Nat.le_succ _, ⟨rfl, rfl, hr.val, rfl, hr.cut, hr.ref, (fun h => by cases h), hr.vb, hr.li, hr.tk⟩, rfl⟩, fun R h s => ?_⟩
      simp only [List.cons_append, List.nil_append] at s
      simp only [List.cons_append, List.nil_append]
      exact Sat.tail (fun h s => rclk_close i1' j1' i2' j2' (R := kA (⟨y.kind, y.pk, y.v, y.a, y.c, y.l, y.taken, y.last, true, 1, y.val, a3, c3, ((dueL w).map (·.id)), y.a1, y.k1, y.cut, y.a2, y.k2, y.ref⟩ : RK) :: R) (fun h s => Sat.tail (fun h s => Sat.tail (fun h s => Sat.tail (fun h s => kA_close (y := (⟨y.kind, y.pk, y.v, y.a, y.c, y.l, y.taken, y.last, true, 1, y.val, a3, c3, ((dueL w).map (·.id)), y.a1, y.k1, y.cut, y.a2, y.k2, y.ref⟩ : RK)) (To.sat (by repeat (first | exact .nil | exact .done .refl | (apply To.cons; · (repeat (first | exact .head | apply Sel.tail))) | exact .done (by repeat (first | exact .refl | apply Drop.skip))))) h s) s) s) s) h s) s

end Go.Proofs.YtmohikdmdmplaaaGreat.L
