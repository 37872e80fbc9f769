/-
  RingPlays. Own work, printed in part by a program of its own.
-/
import Derived.Test.YtnkcgfllehohbaaRingNg
namespace Go.Proofs.Ytnkcgfllehohbaa.L
open Go.L Go.L.Ring
def oV : Option (Nat × RO) → Value
  | none => .pointer none
  | some q => ptr q.1 0
def oA (r : Nat) : Option (Nat × RO) → Assn
  | none => emp
  | some q => opA q.1 r q.2
structure RY where
  kind : Int
  v : Int
  a : Option Addr
  c : Nat
  k : Nat
  l : List Int
def rV (y : RY) : List Value := [I64 y.kind, U64 y.v, .slice y.a y.k y.c]
def rA (y : RY) : Assn := own (.slice y.a y.k y.c) 28 1 y.k (y.l.map U64)
def sV (q : Int × Int × Int) : List Value := [.int .u8 q.1, .int .u8 q.2.1, U64 q.2.2]
def y0 : RY := ⟨0, 0, none, 0, 0, []⟩
def idleB : Option (Nat × RO) → Bool
  | none => true
  | some q => q.2.over
def RP (b n i : Nat) : Option (Nat × RO) → RY → Prop
  | none, _ => True
  | some q, y => OI q.2 ∧ RelN b n q.2 y.kind y.v y.l ∧ (1 ≤ y.kind ∧ y.kind ≤ 5) ∧ (0 ≤ y.v ∧ y.v ≤ 18446744073709551615) ∧ LI y.l ∧ y.k = y.l.length ∧ y.l.length ≤ i
theorem RP.mono {b n i j : Nat} {x : Option (Nat × RO)} {y : RY} (h : RP b n i x y) (hij : i ≤ j) : RP b n j x y := by
  cases x with
  | none => trivial
  | some q => exact ⟨h.1, h.2.1, h.2.2.1, h.2.2.2.1, h.2.2.2.2.1, h.2.2.2.2.2.1, Nat.le_trans h.2.2.2.2.2.2 hij⟩
structure RPS (b n i : Nat) (L : List Int) (xs : List (Option (Nat × RO))) (ys : List RY) : Prop where
  len : L.length = b + 2 + 2 * n + 1
  li : LI L
  lx : xs.length = 6
  ly : ys.length = 6
  all : ∀ j, j < 6 → ∃ x y, xs[j]? = some x ∧ ys[j]? = some y ∧ RP b n i x y
theorem RPS.mono {b n i j : Nat} {L : List Int} {xs : List (Option (Nat × RO))} {ys : List RY} (h : RPS b n i L xs ys) (hij : i ≤ j) : RPS b n j L xs ys :=
  ⟨h.len, h.li, h.lx, h.ly, fun k hk => let ⟨x, y, h1, h2, h3⟩ := h.all k hk; ⟨x, y, h1, h2, h3.mono hij⟩⟩
theorem RPS.set {b n i : Nat} {L L' : List Int} {xs : List (Option (Nat × RO))} {ys : List RY} (h : RPS b n i L xs ys) (hl : L'.length = L.length) (hli : LI L') {j : Nat} (hj : j < 6) (x : Option (Nat × RO)) (y : RY) (hxy : RP b n (i + 1) x y) : RPS b n (i + 1) L' (xs.set j x) (ys.set j y) := by
  have lx := h.lx; have ly := h.ly
  refine ⟨by rw [hl, h.len], hli, by simp [lx], by simp [ly], fun k hk => ?_⟩
  obtain ⟨x', y', h1, h2, h3⟩ := h.all k hk
  by_cases e : j = k
  · subst e; exact ⟨x, y, by rw [List.getElem?_set_self (by omega)], by rw [List.getElem?_set_self (by omega)], hxy⟩
  · exact ⟨x', y', by rw [List.getElem?_set_ne e]; exact h1, by rw [List.getElem?_set_ne e]; exact h2, h3.mono (by omega)⟩
theorem RPS.start (b n : Nat) : RPS b n 0 (List.replicate (b + 2 + 2 * n + 1) 0) (List.replicate 6 none) (List.replicate 6 y0) :=
  ⟨by simp, LI_rep _, rfl, rfl, fun j hj => ⟨none, y0, by rw [List.getElem?_replicate, if_pos hj], by rw [List.getElem?_replicate, if_pos hj], trivial⟩⟩
theorem plays_start {r : Nat} {R : List Assn} : ∀ h, Sat R h → Sat (fam ((List.replicate 6 none).map (oA r)) :: fam ((List.replicate 6 y0).map rA) :: R) h := fun h s => by
  have n0 := fun (R : List Assn) (h : Hp) (s : Sat R h) => own_nil0 (e := 28) (sz := 1) h s
  have f1 : Sat (fam ((List.replicate 6 y0).map rA) :: R) h := Sat.flat.2 (n0 _ _ (n0 _ _ (n0 _ _ (n0 _ _ (n0 _ _ (n0 _ _ s))))))
  exact Sat.flat.2 (emp0 h (emp0 h (emp0 h (emp0 h (emp0 h (emp0 h f1))))))
theorem map_sameP {α β : Type} {f : α → β} {l : List α} {p : Nat} {y : α} (h : l[p]? = some y) : (l.map f).set p (f y) = l.map f := by
  obtain ⟨hp, e⟩ := List.getElem?_eq_some_iff.1 h
  apply List.ext_getElem (by simp)
  intro i h1 h2
  rw [List.getElem_set]
  split
  · rename_i e2; subst e2; simp [e]
  · rfl
theorem splice_flat {α : Type} (f : α → List Value) (sz : Nat) (hf : ∀ x, (f x).length = sz) (x : α) : ∀ (l : List α) (i : Nat), i < l.length → splice (l.flatMap f) (i * sz) (f x) = (l.set i x).flatMap f := by
  intro l i hi
  have h1 := flat_length f sz hf l
  rw [splice_take _ _ _ (by rw [hf, h1]; have : (i + 1) * sz ≤ l.length * sz := Nat.mul_le_mul_right _ hi; rw [Nat.add_mul] at this; omega)]
  have h2 : (l.flatMap f).take (i * sz) = (l.take i).flatMap f := by
    conv => lhs; rw [← List.take_append_drop i l, List.flatMap_append]
    rw [List.take_append_of_le_length (by rw [flat_length f sz hf, List.length_take]; exact Nat.le_of_eq (by rw [Nat.min_eq_left (by omega)])), List.take_of_length_le (by rw [flat_length f sz hf, List.length_take, Nat.min_eq_left (by omega)]; exact Nat.le_refl _)]
  have h3 : (l.flatMap f).drop (i * sz + (f x).length) = (l.drop (i + 1)).flatMap f := by
    rw [hf, show i * sz + sz = (i + 1) * sz by rw [Nat.add_mul]; omega]; exact flat_drop f sz hf l (i + 1)
  rw [h2, h3, List.set_eq_take_append_cons_drop, if_pos hi, List.flatMap_append, List.flatMap_cons, List.append_assoc]
theorem fns_conv {P : Program} {f : FuncId} {args : List Value} {As : List Assn} {post post' : Value → List Assn → Prop} (h : FnS P f args As post) (g : ∀ v Bs, post v Bs → ∃ Bs', post' v Bs' ∧ ∀ R h, Sat (Bs ++ R) h → Sat (Bs' ++ R) h) : FnS P f args As post' :=
  fun W0 R w s => (h W0 R w s).mono fun _ _ ⟨v, Bs, e, p, s⟩ => let ⟨Bs', p', f⟩ := g v Bs p; ⟨v, Bs', e, p', s.imp (f R)⟩
theorem o_neqO {P : Program} {W0 : World} {n : Nat} {sl : Slots} {As : List Assn} {ty t t' : TypeId} {x y : Operand} {z : Option (Nat × RO)} [i : TPtr P t] (hx : opv sl x = some (oV z)) (hy : opv sl y = some (.pointer none)) : OV P W0 n (.binOp .neq t x y t') ty sl As (.bool z.isSome) := by
  cases z with
  | none => exact o_neqnn hx hy
  | some q => exact o_neqPn hx hy
theorem o_eqlO {P : Program} {W0 : World} {n : Nat} {sl : Slots} {As : List Assn} {ty t t' : TypeId} {x y : Operand} {z : Option (Nat × RO)} [i : TPtr P t] (hx : opv sl x = some (oV z)) (hy : opv sl y = some (.pointer none)) : OV P W0 n (.binOp .eql t x y t') ty sl As (.bool z.isNone) := by
  cases z with
  | none => exact o_eqlnn hx hy
  | some q => exact o_eqlPn hx hy
theorem rstep_spec (p b n : Nat) (hn : 1 ≤ n) (hn2 : n ≤ 64) (hb : b ≤ 65536) (kind v : Int) (hk : 1 ≤ kind ∧ kind ≤ 5) (hv : 0 ≤ v ∧ v ≤ 18446744073709551615) (a : Option Addr) (c : Nat) (l : List Int) (hl : LI l) (hm : l.length ≤ 100000) (L : List Int) (t : Int) (hL : b + 2 + 2 * n ≤ L.length) (hLI : LI L) (o : RO) (R : RelN b n o kind v l) :
    FnS Try.prog 34 [ptr p 0, atV b n, opV' kind v (.slice a l.length c)] [rmemA p L t, own (.slice a l.length c) 28 1 l.length (l.map U64)]
      (fun u Bs => ∃ a' c' l' t', u = opV' kind v (.slice a' l'.length c') ∧ RelN b n (goO b n L o) kind v l' ∧ LI l' ∧ l'.length ≤ l.length + 1 ∧ Bs = [rmemA p (goL b n L o) t', own (.slice a' l'.length c') 28 1 l'.length (l'.map U64)]) := by
  have hlk := R.like
  cases ho : o.over with
  | true =>
    have g1 : goL b n L o = L := by unfold goL; rw [ho]; rfl
    have g2 : goO b n L o = o := by unfold goO; rw [ho]; rfl
    rw [g1, g2]
    exact (rstep_over p b n hn hn2 hb kind v hk hv a c l hl hm _ L t hL (by rw [hlk.1, ho])).mono fun u Bs ⟨h1, h2⟩ => ⟨a, c, l, t, h1, R, hl, by omega, h2⟩
  | false =>
    have S := R.step ho L
    refine fns_conv (rstep_go p b n hn hn2 hb kind v hk hv a c l hl hm _ L t hL (by rw [hlk.1, ho])) fun u Bs ⟨a', c', h1, h2⟩ => ⟨_, ⟨a', c', l ++ [accX (nextN b n kind v l) L], tup t, by rw [List.length_append]; exact h1, S.on, fun x hx => ?_, by simp, rfl⟩, fun R h s => ?_⟩
    · rcases List.mem_append.1 hx with hx | hx
      · exact hl x hx
      · rw [List.mem_singleton.1 hx]; exact accX_in hLI
    · subst h2
      rw [S.cells, List.length_append]
      exact Sat.tail (fun h s => Sat.tail (fun h s => Sat.drop s) s) s
theorem rmem_shut {p : Nat} {L : List Int} {t : Int} {As R1 R2 : List Assn} (a : Option Addr) (c : Nat) (s1 : Sel (cel p 37 [.slice a L.length c, I64 t]) As R1) (s2 : Sel (own (.slice a L.length c) 28 1 L.length (L.map U64)) R1 R2) : ∀ h, Sat As h → Sat (rmemA p L t :: R2) h :=
  rmem_close a c rfl rfl (fun _ s => Sat.tail (fun _ => s2.to) (s1.to s))
theorem touched_same {o : RO} {t : Int} (h0 : 0 ≤ t) (h1 : t ≤ 100000) : (!(o.over == decide ((if o.over then t else tup t) = t))) = false := by
  have := tup_of (t := t) (by omega)
  cases o.over with
  | true => simp
  | false => simp only [Bool.false_eq_true, if_false]; rw [this]; simp; omega
theorem touched_up {o : RO} {t : Int} (h0 : 0 ≤ t) (h1 : t ≤ 100000) : decide (t + 1 < (if o.over then t else tup t)) = false := by
  have := tup_of (t := t) (by omega)
  apply decide_eq_false
  split <;> omega
theorem touched_in {o : RO} {t : Int} (h0 : 0 ≤ t) (h1 : t ≤ 100000) : 0 ≤ (if o.over then t else tup t) ∧ (if o.over then t else tup t) ≤ t + 1 := by
  have := tup_of (t := t) (by omega)
  split <;> omega
theorem tupN_of : ∀ k : Nat, k ≤ 1000 → tupN k 0 = k
  | 0, _ => rfl
  | k + 1, h => by rw [tupN, tupN_of k (by omega), tup_of (by omega)]; omega
theorem RPS.RI {b n i : Nat} {L : List Int} {xs : List (Option (Nat × RO))} {ys : List RY} (h : RPS b n i L xs ys) (h1 : 1 ≤ n) (h2 : n ≤ 64) (hb : b ≤ 4) : RI b n L := ⟨h1, h2, by rw [h.len]; omega, by rw [h.len]; omega⟩

set_option maxRecDepth 8000 in
theorem plays_spec (s s2 : Nat) (hs : s ≤ 255) (hs2 : s2 ≤ 255) (a : Option Addr) (c : Nat) (vs : List (Int × Int × Int)) (hvs : ∀ q ∈ vs, (0 ≤ q.1 ∧ q.1 ≤ 255) ∧ (0 ≤ q.2.1 ∧ q.2.1 ≤ 255) ∧ 0 ≤ q.2.2 ∧ q.2.2 ≤ 18446744073709551615) (hm : vs.length ≤ 140737488351232) (A : Assn) [RdA (.slice a vs.length c) A vs.length (vs.flatMap sV)] : FnS Try.prog 9 [.int .u8 s, .int .u8 s2, .slice a vs.length c] [A] (fun u Bs => u = .bool true ∧ Bs = [A]) := by
  refine fn_body Try.func9 rfl rfl rfl ?_
  intro W0 R
  simp only [List.zipIdx_cons, List.zipIdx_nil, List.map_cons, List.map_nil, Nat.zero_add, Nat.reduceAdd, List.cons_append, List.nil_append]
  obtain ⟨n, hn⟩ : ∃ n, n = 1 + s % 9 := ⟨_, rfl⟩
  obtain ⟨b, hbd⟩ : ∃ b, b = s2 % 5 := ⟨_, rfl⟩
  have h1 : 1 ≤ n := by omega
  have h9 : n ≤ 9 := by omega
  have h7 : n ≤ 64 := by omega
  have hb : b ≤ 4 := by omega
  have hb6 : b ≤ 65536 := by omega
  have hcnt : cnt ((b + 2 + 2 * n + 1 : Nat) : Int) = b + 2 + 2 * n + 1 := by have := cnt_of ((b + 2 + 2 * n + 1 : Nat) : Int) (by omega); omega
  refine g_seq ?_
  refine g_region ?_
  refine gl_v rfl (o_assign rfl) ?_
  refine gl_nil ?_
  refine ge_then ?_
  refine g_seq ?_
  refine g_seq ?_
  refine g_region ?_
  refine gl_c rfl (o_call rfl (alive_spec) (by repeat (first | exact .nil | (apply Part.cons; · (repeat (first | exact .head | apply Sel.tail)))))) ?_
  rintro _ R ⟨_, ⟨rfl, rfl⟩, rfl⟩
  try simp only [List.cons_append, List.nil_append]
  refine gl_v rfl (o_not rfl) ?_
  refine gl_nil ?_
  refine ge_then ?_
  refine g_cond_false (rfl) ?_
  refine g_skip ?_
  refine ge_then ?_
  refine g_seq ?_
  refine g_region ?_
  refine gl_v rfl (o_move rfl) ?_
  refine gl_v rfl (o_convR (s : Int) (wr_i64 (by omega)) rfl) ?_
  refine gl_v rfl (o_remR ((s % 9 : Nat) : Int) (tmodn s 9) rfl rfl (by decide)) ?_
  refine gl_v rfl (o_addR ((n : Nat) : Int) (by rw [wr_i64 (by omega)]; omega) rfl rfl) ?_
  refine gl_v rfl (o_assign rfl) ?_
  refine gl_nil ?_
  refine ge_then ?_
  refine g_seq ?_
  refine g_region ?_
  refine gl_v rfl (o_move rfl) ?_
  refine gl_v rfl (o_convR (s2 : Int) (wr_i64 (by omega)) rfl) ?_
  refine gl_v rfl (o_remR (b : Int) ((tmodn s2 5).trans (by rw [hbd])) rfl rfl (by decide)) ?_
  refine gl_v rfl (o_assign rfl) ?_
  refine gl_nil ?_
  refine ge_then ?_
  refine g_seq ?_
  refine g_region ?_
  refine gl_v rfl (o_move rfl) ?_
  refine gl_v rfl (o_addR ((b + 2 : Nat) : Int) (by rw [wr_i64 (by omega)]; omega) rfl rfl) ?_
  refine gl_v rfl (o_move rfl) ?_
  refine gl_v rfl (o_mulR ((2 * n : Nat) : Int) (by rw [wr_i64 (by omega)]; omega) rfl rfl) ?_
  refine gl_v rfl (o_addR ((b + 2 + 2 * n : Nat) : Int) (by rw [wr_i64 (by omega)]; omega) rfl rfl) ?_
  refine gl_v rfl (o_addR ((b + 2 + 2 * n + 1 : Nat) : Int) (by rw [wr_i64 (by omega)]; omega) rfl rfl) ?_
  refine gl_c rfl (o_call rfl (New_spec ((b + 2 + 2 * n + 1 : Nat) : Int)) (by repeat (first | exact .nil | (apply Part.cons; · (repeat (first | exact .head | apply Sel.tail)))))) ?_
  rintro _ R ⟨_, ⟨m, rfl, rfl⟩, rfl⟩
  try simp only [List.cons_append, List.nil_append]
  rw [hcnt]
  refine gl_v rfl (o_assign rfl) ?_
  refine gl_nil ?_
  refine ge_then ?_
  refine g_seq ?_
  refine g_region ?_
  refine gl_v rfl (o_move rfl) ?_
  refine gl_v rfl (o_move rfl) ?_
  refine gl_v rfl (o_move rfl) ?_
  refine gl_c rfl (o_call rfl (Make_spec m b n (List.replicate (b + 2 + 2 * n + 1) 0) 0 ⟨h1, h7, by simp, by simp; omega⟩) (by repeat (first | exact .nil | (apply Part.cons; · (repeat (first | exact .head | apply Sel.tail)))))) ?_
  rintro _ R ⟨_, ⟨r, rfl, rfl⟩, rfl⟩
  try simp only [List.cons_append, List.nil_append]
  rw [zap_rep]
  refine gl_v rfl (o_move rfl) ?_
  refine gl_v rfl (o_extract rfl rfl) ?_
  refine gl_v rfl (o_extract rfl rfl) ?_
  refine gl_v rfl (o_assign rfl) ?_
  refine gl_v rfl (o_assign rfl) ?_
  refine gl_nil ?_
  refine ge_then ?_
  refine g_seq ?_
  refine g_seq ?_
  refine g_region ?_
  refine gl_v rfl (o_move rfl) ?_
  refine gl_v rfl (o_is (c := false) (by rfl) (o_neq rfl rfl)) ?_
  refine gl_v rfl (o_move rfl) ?_
  refine gl_gT rfl rfl rfl ?_
  refine gl_v rfl (o_move rfl) ?_
  refine gl_gT rfl rfl rfl ?_
  refine gl_v rfl (o_is (c := false) rfl (o_eqlPn rfl rfl)) ?_
  refine gl_v rfl (o_pickF rfl rfl rfl) ?_
  refine gl_nil ?_
  refine ge_then ?_
  refine g_cond_false rfl ?_
  refine g_skip ?_
  refine ge_then ?_
  refine g_seq ?_
  refine g_region ?_
  refine gl_v rfl (o_move rfl) ?_
  refine gl_v rfl (o_move rfl) ?_
  refine gl_v rfl (o_build rfl rfl) ?_
  refine gl_n rfl (o_alloc) ?_
  rintro _ _ ⟨b12, rfl, rfl⟩
  first | refine gl_u (o_storeSA rfl rfl rfl rfl (by simp; omega) (by simp)) ?_ | refine gl_u (o_storeA rfl rfl rfl rfl rfl) ?_
  refine gl_nil ?_
  refine ge_then ?_
  refine g_seq ?_
  refine g_region ?_
  refine gl_v rfl (o_move rfl) ?_
  refine gl_v rfl (o_addR ((b + 2 : Nat) : Int) (by rw [wr_i64 (by omega)]; omega) rfl rfl) ?_
  refine gl_v rfl (o_move rfl) ?_
  refine gl_v rfl (o_mulR ((2 * n : Nat) : Int) (by rw [wr_i64 (by omega)]; omega) rfl rfl) ?_
  refine gl_v rfl (o_addR ((b + 2 + 2 * n : Nat) : Int) (by rw [wr_i64 (by omega)]; omega) rfl rfl) ?_
  refine gl_v rfl (o_addR ((b + 2 + 2 * n + 1 : Nat) : Int) (by rw [wr_i64 (by omega)]; omega) rfl rfl) ?_
  refine gl_c rfl (o_call rfl (rNew_spec ((b + 2 + 2 * n + 1 : Nat) : Int)) (by repeat (first | exact .nil | (apply Part.cons; · (repeat (first | exact .head | apply Sel.tail)))))) ?_
  rintro _ R ⟨_, ⟨w, rfl, rfl⟩, rfl⟩
  try simp only [List.cons_append, List.nil_append]
  rw [hcnt]
  refine gl_v rfl (o_assign rfl) ?_
  refine gl_nil ?_
  refine ge_then ?_
  refine g_seq ?_
  refine g_region ?_
  refine gl_v rfl (o_move rfl) ?_
  first | refine gl_v rfl (o_loadSA rfl rfl rfl) ?_ | refine gl_v rfl (o_loadA rfl rfl rfl) ?_
  refine gl_c rfl (o_call rfl (rlay_spec w b n (b + 2 + 2 * n + 1) h1 h7 hb6 0 (by omega)) (by repeat (first | exact .nil | (apply Part.cons; · (repeat (first | exact .head | apply Sel.tail)))))) ?_
  rintro _ R ⟨_, ⟨rfl, rfl⟩, rfl⟩
  try simp only [List.cons_append, List.nil_append]
  refine gl_nil ?_
  refine ge_then ?_
  refine g_seq ?_
  refine g_region ?_
  refine gl_n rfl (o_makeS (k := 6) rfl rfl (by unfold maxLen; omega) (by omega)) ?_
  rintro _ _ ⟨a65, c65, rfl, rfl⟩
  refine gl_v rfl (o_assign rfl) ?_
  refine gl_nil ?_
  refine ge_then ?_
  refine g_seq ?_
  refine g_region ?_
  refine gl_n rfl (o_makeS (k := 6) rfl rfl (by unfold maxLen; omega) (by omega)) ?_
  rintro _ _ ⟨a66, c66, rfl, rfl⟩
  refine gl_v rfl (o_assign rfl) ?_
  refine gl_nil ?_
  refine ge_then ?_
  refine g_seq ?_
  refine g_seq ?_
  refine g_imp (plays_start (r := r)) ?_
  refine g_region ?_
  refine gl_v rfl (o_assign rfl) ?_
  refine gl_nil ?_
  refine ge_then ?_
  refine g_block ?_
  refine g_loop (ι := Nat × List Int × Int × Int × List (Option (Nat × RO)) × List RY) (fun x => RPS b n x.1 x.2.1 x.2.2.2.2.1 x.2.2.2.2.2 ∧ x.1 ≤ 400 ∧ x.1 ≤ vs.length ∧ 0 ≤ x.2.2.1 ∧ x.2.2.1 ≤ 1000 + (x.1 : Int)) (fun x => [(16, I64 x.1), (15, .slice a66 6 c66), (14, .slice a65 6 c65), (13, ptr w 0), (12, ptr b12 0), (10, ptr r 0), (9, ptr m 0), (2, .slice a vs.length c)]) (fun x => memA m x.2.1 x.2.2.1 :: ringA r m b n :: cel b12 42 [I64 b, I64 n] :: rmemA w x.2.1 x.2.2.2.1 :: own (.slice a65 6 c65) 50 1 6 (x.2.2.2.2.1.map oV) :: own (.slice a66 6 c66) 71 3 6 (x.2.2.2.2.2.flatMap rV) :: fam (x.2.2.2.2.1.map (oA r)) :: fam (x.2.2.2.2.2.map rA) :: A :: R) (fun x => 400 - x.1) (0, List.replicate (b + 2 + 2 * n + 1) 0, tupN (2 + 2 * n) 0, 0, List.replicate 6 none, List.replicate 6 y0) (⟨RPS.start b n, Nat.zero_le _, Nat.zero_le _, by show 0 ≤ tupN (2 + 2 * n) 0; rw [tupN_of _ (by omega)]; omega, by show tupN (2 + 2 * n) 0 ≤ 1000 + ((0 : Nat) : Int); rw [tupN_of _ (by omega)]; omega⟩) (Keep.cons rfl (Keep.cons rfl (Keep.cons rfl (Keep.cons rfl (Keep.cons rfl (Keep.cons rfl (Keep.cons rfl (Keep.cons rfl (Keep.nil))))))))) (To.sat (by repeat (first | exact .nil | exact .done .refl | (apply To.cons; · (repeat (first | exact .head | apply Sel.tail))) | exact .done (by repeat (first | exact .refl | apply Drop.skip))))) ?_
  rintro ⟨i, L, t, tr, xs, ys⟩ ⟨hS, hi, hiv, ht0, ht1⟩
  have hS : RPS b n i L xs ys := hS
  have hi : i ≤ 400 := hi
  have hiv : i ≤ vs.length := hiv
  have ht0 : 0 ≤ t := ht0
  have ht1 : t ≤ 1000 + (i : Int) := ht1
  dsimp only
  refine g_seq ?_
  refine g_seq ?_
  refine g_region ?_
  refine gl_v rfl (o_move rfl) ?_
  refine gl_v rfl (o_move rfl) ?_
  refine gl_v rfl (o_len rfl) ?_
  refine gl_v rfl (o_lss rfl rfl) ?_
  refine gl_v rfl (o_move rfl) ?_
  refine gl_g rfl rfl (fun hc1 => ?_) (fun hc1 => ?_) rfl
  ·
    have hc1' := hc1
    first | replace hc1' := of_decide_eq_true hc1' | replace hc1' := lt_f hc1' | replace hc1' := le_f hc1' | replace hc1' := dec_f hc1' | replace hc1' := nlt_t hc1' | replace hc1' := nle_t hc1' | replace hc1' := ndec_t hc1' | replace hc1' := ndec_f hc1' | replace hc1' := nn_t hc1' | replace hc1' := nn_f hc1' | skip
    refine gl_v rfl (o_move rfl) ?_
    refine gl_gT rfl rfl hc1 ?_
    refine gl_v rfl (o_lss rfl rfl) ?_
    refine gl_v rfl (o_pickT hc1 rfl rfl) ?_
    refine gl_nil ?_
    refine ge_then ?_
    refine g_cond rfl (fun hc2 => ?_) (fun hc2 => ?_)
    ·
      first | replace hc2 := of_decide_eq_true hc2 | replace hc2 := lt_f hc2 | replace hc2 := le_f hc2 | replace hc2 := dec_f hc2 | replace hc2 := nlt_t hc2 | replace hc2 := nle_t hc2 | replace hc2 := ndec_t hc2 | replace hc2 := ndec_f hc2 | replace hc2 := nn_t hc2 | replace hc2 := nn_f hc2 | skip
      refine g_skip ?_
      refine ge_then ?_
      refine g_seq ?_
      refine g_block ?_
      refine g_seq ?_
      have hi1 : i < vs.length := by omega
      obtain ⟨⟨k0, t0, v0⟩, hq⟩ : ∃ q, vs[i]? = some q := ⟨_, List.getElem?_eq_getElem hi1⟩
      obtain ⟨hr1, hr2, hr3⟩ := hvs _ (List.mem_of_getElem? hq)
      dsimp only at hr1 hr2 hr3
      obtain ⟨tn, htn⟩ : ∃ tn : Nat, (tn : Int) = t0 := ⟨t0.toNat, by omega⟩
      obtain ⟨kn, hkn⟩ : ∃ kn : Nat, (kn : Int) = k0 := ⟨k0.toNat, by omega⟩
      refine g_region ?_
      refine gl_v rfl (o_move rfl) ?_
      refine gl_v rfl (o_move rfl) ?_
      refine gl_v rfl (o_idxS rfl rfl (by first | assumption | omega)) ?_
      refine gl_v rfl (o_loadSA rfl (flat_take sV 3 (fun _ => rfl) hq) rfl) ?_
      refine gl_n rfl (o_alloc) ?_
      rintro _ _ ⟨b17, rfl, rfl⟩
      first | refine gl_u (o_storeSA rfl rfl rfl rfl (by simp; omega) (by simp)) ?_ | refine gl_u (o_storeA rfl rfl rfl rfl rfl) ?_
      refine gl_nil ?_
      refine ge_then ?_
      refine g_seq ?_
      refine g_region ?_
      first | refine gl_v rfl (o_fldS rfl) ?_ | refine gl_v rfl (o_fld rfl) ?_
      first | refine gl_v rfl (o_load rfl rfl) ?_ | refine gl_v rfl (o_loadS rfl rfl) ?_ | refine gl_v rfl (o_loadC rfl) ?_
      refine gl_v rfl (o_convR (p := t0) (tn : Int) (by rw [htn]; exact wr_i64 (by omega)) rfl) ?_
      refine gl_v rfl (o_remR ((tn % 6 : Nat) : Int) (tmodn tn 6) rfl rfl (by decide)) ?_
      refine gl_v rfl (o_assign rfl) ?_
      refine gl_nil ?_
      generalize hjd : tn % 6 = j
      have hj : j < 6 := by rw [← hjd]; exact Nat.mod_lt _ (by decide)
      refine ge_then ?_
      refine g_seq ?_
      refine g_region ?_
      first | refine gl_v rfl (o_fldS rfl) ?_ | refine gl_v rfl (o_fld rfl) ?_
      first | refine gl_v rfl (o_load rfl rfl) ?_ | refine gl_v rfl (o_loadS rfl rfl) ?_ | refine gl_v rfl (o_loadC rfl) ?_
      refine gl_v rfl (o_convR (p := k0) (kn : Int) (by rw [hkn]; exact wr_i64 (by omega)) rfl) ?_
      refine gl_v rfl (o_remR ((kn % 7 : Nat) : Int) (tmodn kn 7) rfl rfl (by decide)) ?_
      refine gl_v rfl (o_assign rfl) ?_
      refine gl_nil ?_
      generalize hkd : kn % 7 = kd
      refine ge_then ?_
      refine g_cut (fun act wo => ∃ (x : Option (Nat × RO)) (y : RY), xs[j]? = some x ∧ ys[j]? = some y ∧ RP b n i x y ∧ HasSl Try.f9.ntmps [(20, .bool (idleB x)), (19, I64 kd), (18, I64 j), (17, ptr b17 0), (16, I64 i), (15, .slice a66 6 c66), (14, .slice a65 6 c65), (13, ptr w 0), (12, ptr b12 0), (10, ptr r 0), (9, ptr m 0), (2, .slice a vs.length c)] act ∧ St W0 (cel b17 68 [.int .u8 k0, .int .u8 t0, U64 v0] :: memA m L t :: ringA r m b n :: cel b12 42 [I64 b, I64 n] :: rmemA w L tr :: own (.slice a65 6 c65) 50 1 6 (xs.map oV) :: own (.slice a66 6 c66) 71 3 6 (ys.flatMap rV) :: fam (xs.map (oA r)) :: fam (ys.map rA) :: A :: R) wo) ?_ ?_
      ·
        obtain ⟨x, y, hx, hy, hxy⟩ := hS.all j hj
        have hxv : (xs.map oV)[j * 1]? = some (oV x) := by rw [Nat.mul_one]; exact map_at' hx
        refine g_region ?_
        refine gl_v rfl (o_move rfl) ?_
        refine gl_v rfl (o_move rfl) ?_
        refine gl_v rfl (o_idxS rfl rfl (by first | assumption | omega)) ?_
        refine gl_v rfl (o_loadS rfl hxv) ?_
        refine gl_v rfl (o_eqlO rfl rfl) ?_
        refine gl_v rfl (o_move rfl) ?_
        refine gl_g rfl rfl (fun hc3 => ?_) (fun hc3 => ?_) rfl
        ·
          have hc3' := hc3
          first | replace hc3' := of_decide_eq_true hc3' | replace hc3' := lt_f hc3' | replace hc3' := le_f hc3' | replace hc3' := dec_f hc3' | replace hc3' := nlt_t hc3' | replace hc3' := nle_t hc3' | replace hc3' := ndec_t hc3' | replace hc3' := ndec_f hc3' | replace hc3' := nn_t hc3' | replace hc3' := nn_f hc3' | skip
          obtain ⟨⟨p, o⟩, rfl⟩ : ∃ q, x = some q := by cases x with | none => simp at * | some q => exact ⟨q, rfl⟩
          refine gl_v rfl (o_move rfl) ?_
          refine gl_gT rfl rfl hc3 ?_
          refine gl_v rfl (o_move rfl) ?_
          refine gl_gT rfl rfl hc3 ?_
          refine gl_v rfl (o_idxS rfl rfl (by first | assumption | omega)) ?_
          refine gl_gT rfl rfl hc3 ?_
          refine gl_v rfl (o_loadS rfl hxv) ?_
          refine gl_gT rfl rfl hc3 ?_
          refine gl_fo (l := xs.map (oA r)) (i := j) (A := opA p r o) (by repeat (first | exact .head | apply Sel.tail)) (map_at' (f := oA r) hx) ?_
          refine gl_c rfl (o_call rfl (Over_spec p r o) (by repeat (first | exact .nil | (apply Part.cons; · (repeat (first | exact .head | apply Sel.tail)))))) ?_
          rintro _ R ⟨_, ⟨rfl, rfl⟩, rfl⟩
          try simp only [List.cons_append, List.nil_append]
          refine gl_imp (fs (l := xs.map (oA r)) (i := j) (A := oA r (some (p, o))) (by repeat (first | exact .head | apply Sel.tail)) (by repeat (first | exact .head | apply Sel.tail)) (by simp [hS.lx, hj])) ?_
          rw [map_sameP (f := oA r) hx]
          refine gl_v rfl (o_pickF hc3 rfl rfl) ?_
          refine gl_v rfl (o_assign rfl) ?_
          refine gl_nil ?_
          first
          | (obtain rfl : x = none := by cases x with | none => rfl | some q => simp at *)
          | skip
          exact fun act wo hsl st => ⟨some (p, o), y, hx, hy, hxy, hsl.keep (Keep.cons rfl (Keep.cons rfl (Keep.cons rfl (Keep.cons rfl (Keep.cons rfl (Keep.cons rfl (Keep.cons rfl (Keep.cons rfl (Keep.cons rfl (Keep.cons rfl (Keep.cons rfl (Keep.cons rfl (Keep.nil))))))))))))), st.imp (To.sat (by repeat (first | exact .nil | exact .done .refl | (apply To.cons; · (repeat (first | exact .head | apply Sel.tail))) | exact .done (by repeat (first | exact .refl | apply Drop.skip)))))⟩
        ·
          have hc3' := hc3
          first | replace hc3' := of_decide_eq_true hc3' | replace hc3' := lt_f hc3' | replace hc3' := le_f hc3' | replace hc3' := dec_f hc3' | replace hc3' := nlt_t hc3' | replace hc3' := nle_t hc3' | replace hc3' := ndec_t hc3' | replace hc3' := ndec_f hc3' | replace hc3' := nn_t hc3' | replace hc3' := nn_f hc3' | skip
          simp only [putO]
          refine gl_gF rfl rfl hc3 rfl ?_
          refine gl_gF rfl rfl hc3 rfl ?_
          refine gl_gF rfl rfl hc3 rfl ?_
          refine gl_gF rfl rfl hc3 rfl ?_
          refine gl_v rfl (o_pickT hc3 rfl rfl) ?_
          refine gl_v rfl (o_assign rfl) ?_
          refine gl_nil ?_
          first
          | (obtain rfl : x = none := by cases x with | none => rfl | some q => simp at *)
          | skip
          exact fun act wo hsl st => ⟨none, y, hx, hy, hxy, hsl.keep (Keep.cons rfl (Keep.cons rfl (Keep.cons rfl (Keep.cons rfl (Keep.cons rfl (Keep.cons rfl (Keep.cons rfl (Keep.cons rfl (Keep.cons rfl (Keep.cons rfl (Keep.cons rfl (Keep.cons rfl (Keep.nil))))))))))))), st.imp (To.sat (by repeat (first | exact .nil | exact .done .refl | (apply To.cons; · (repeat (first | exact .head | apply Sel.tail))) | exact .done (by repeat (first | exact .refl | apply Drop.skip)))))⟩
      ·
        rintro act wo ⟨x, y, hx, hy, hxy, hsl, st⟩
        refine g_of ?_ hsl st
        clear hsl st act wo
        refine g_cut (fun act wo => ∃ (L : List Int) (t tr : Int) (xs : List (Option (Nat × RO))) (ys : List RY), RPS b n (i + 1) L xs ys ∧ 0 ≤ t ∧ t ≤ 1000 + (i : Int) + 1 ∧ HasSl Try.f9.ntmps [(18, I64 j), (16, I64 i), (15, .slice a66 6 c66), (14, .slice a65 6 c65), (13, ptr w 0), (12, ptr b12 0), (10, ptr r 0), (9, ptr m 0), (2, .slice a vs.length c)] act ∧ St W0 (memA m L t :: ringA r m b n :: cel b12 42 [I64 b, I64 n] :: rmemA w L tr :: own (.slice a65 6 c65) 50 1 6 (xs.map oV) :: own (.slice a66 6 c66) 71 3 6 (ys.flatMap rV) :: fam (xs.map (oA r)) :: fam (ys.map rA) :: A :: R) wo) ?_ ?_
        ·
          refine g_seq ?_
          refine g_region ?_
          refine gl_v rfl (o_move rfl) ?_
          refine gl_v rfl (o_geq rfl rfl) ?_
          refine gl_v rfl (o_move rfl) ?_
          refine gl_g rfl rfl (fun hc4 => ?_) (fun hc4 => ?_) rfl
          ·
            have hc4' := hc4
            first | replace hc4' := of_decide_eq_true hc4' | replace hc4' := lt_f hc4' | replace hc4' := le_f hc4' | replace hc4' := dec_f hc4' | replace hc4' := nlt_t hc4' | replace hc4' := nle_t hc4' | replace hc4' := ndec_t hc4' | replace hc4' := ndec_f hc4' | replace hc4' := nn_t hc4' | replace hc4' := nn_f hc4' | skip
            refine gl_v rfl (o_move rfl) ?_
            refine gl_gT rfl rfl hc4 ?_
            refine gl_v rfl (o_leq rfl rfl) ?_
            refine gl_v rfl (o_pickT hc4 rfl rfl) ?_
            refine gl_nil ?_
            refine ge_then ?_
            refine g_cond rfl (fun hc5 => ?_) (fun hc5 => ?_)
            ·
              first | replace hc5 := of_decide_eq_true hc5 | replace hc5 := lt_f hc5 | replace hc5 := le_f hc5 | replace hc5 := dec_f hc5 | replace hc5 := nlt_t hc5 | replace hc5 := nle_t hc5 | replace hc5 := ndec_t hc5 | replace hc5 := ndec_f hc5 | replace hc5 := nn_t hc5 | replace hc5 := nn_f hc5 | skip
              refine g_seq ?_
              refine g_seq ?_
              refine g_region ?_
              refine gl_v rfl (o_move rfl) ?_
              refine gl_v rfl (o_not rfl) ?_
              refine gl_nil ?_
              refine ge_then ?_
              refine g_cond rfl (fun hc6 => ?_) (fun hc6 => ?_)
              ·
                first | replace hc6 := of_decide_eq_true hc6 | replace hc6 := lt_f hc6 | replace hc6 := le_f hc6 | replace hc6 := dec_f hc6 | replace hc6 := nlt_t hc6 | replace hc6 := nle_t hc6 | replace hc6 := ndec_t hc6 | replace hc6 := ndec_f hc6 | replace hc6 := nn_t hc6 | replace hc6 := nn_f hc6 | skip
                refine g_exit ?_
                refine ge_then_exit ?_
                refine ge_then_exit ?_
                refine ge_block_exit ?_
                refine ge_then ?_
                refine g_region ?_
                refine gl_v rfl (o_move rfl) ?_
                refine gl_v rfl (o_addR _ (by first | exact wr_i64 (by omega) | rfl) rfl rfl) ?_
                refine gl_v rfl (o_assign rfl) ?_
                refine gl_nil ?_
                refine ge_round (i + 1, L, t, tr, xs, ys) ⟨hS.mono (by omega), by show i + 1 ≤ 400; omega, by show i + 1 ≤ vs.length; omega, ht0, by show t ≤ 1000 + ((i + 1 : Nat) : Int); omega⟩ (by show 400 - (i + 1) < 400 - i; omega) (Keep.cons rfl (Keep.cons rfl (Keep.cons rfl (Keep.cons rfl (Keep.cons rfl (Keep.cons rfl (Keep.cons rfl (Keep.cons rfl (Keep.nil))))))))) (To.sat (by repeat (first | exact .nil | exact .done .refl | (apply To.cons; · (repeat (first | exact .head | apply Sel.tail))) | exact .done (by repeat (first | exact .refl | apply Drop.skip)))))
              ·
                first | replace hc6 := of_decide_eq_true hc6 | replace hc6 := lt_f hc6 | replace hc6 := le_f hc6 | replace hc6 := dec_f hc6 | replace hc6 := nlt_t hc6 | replace hc6 := nle_t hc6 | replace hc6 := ndec_t hc6 | replace hc6 := ndec_f hc6 | replace hc6 := nn_t hc6 | replace hc6 := nn_f hc6 | skip
                refine g_skip ?_
                refine ge_then ?_
                refine g_seq ?_
                refine g_fo (l := xs.map (oA r)) (i := j) (A := oA r x) (by repeat (first | exact .head | apply Sel.tail)) (map_at' (f := oA r) hx) ?_
                refine g_fo (l := ys.map rA) (i := j) (A := rA y) (by repeat (first | exact .head | apply Sel.tail)) (map_at' (f := rA) hy) ?_
                have hxv : (xs.map oV)[j * 1]? = some (oV x) := by rw [Nat.mul_one]; exact map_at' hx
                refine g_region ?_
                refine gl_v rfl (o_move rfl) ?_
                refine gl_v rfl (o_move rfl) ?_
                refine gl_v rfl (o_move rfl) ?_
                refine gl_v rfl (o_move rfl) ?_
                first | refine gl_v rfl (o_fldS rfl) ?_ | refine gl_v rfl (o_fld rfl) ?_
                first | refine gl_v rfl (o_load rfl rfl) ?_ | refine gl_v rfl (o_loadS rfl rfl) ?_ | refine gl_v rfl (o_loadC rfl) ?_
                refine gl_c rfl (o_call rfl (begun_spec r kd v0 (by omega)) (by repeat (first | exact .nil | (apply Part.cons; · (repeat (first | exact .head | apply Sel.tail)))))) ?_
                rintro _ R ⟨_, ⟨p2, rfl, rfl⟩, rfl⟩
                try simp only [List.cons_append, List.nil_append]
                refine gl_v rfl (o_idxS rfl rfl (by first | assumption | omega)) ?_
                refine gl_u (o_storeS rfl rfl rfl (by simp [hS.lx]; omega)) ?_
                rw [Nat.mul_one]
                refine gl_nil ?_
                refine ge_then ?_
                refine g_seq ?_
                refine g_region ?_
                refine gl_v rfl (o_move rfl) ?_
                refine gl_v rfl (o_move rfl) ?_
                refine gl_v rfl (o_move rfl) ?_
                first | refine gl_v rfl (o_fldS rfl) ?_ | refine gl_v rfl (o_fld rfl) ?_
                first | refine gl_v rfl (o_load rfl rfl) ?_ | refine gl_v rfl (o_loadS rfl rfl) ?_ | refine gl_v rfl (o_loadC rfl) ?_
                refine gl_v rfl (o_build rfl rfl) ?_
                refine gl_v rfl (o_idxS rfl rfl (by first | assumption | omega)) ?_
                refine gl_u (o_storeSA (vs := rV ⟨kd, v0, none, 0, 0, []⟩) rfl rfl rfl rfl (by rw [flat_length rV 3 (fun _ => rfl), hS.ly]; show j * 3 + 3 ≤ 18; omega) (show 0 < 3 by decide)) ?_
                rw [splice_flat rV 3 (fun _ => rfl) ⟨kd, v0, none, 0, 0, []⟩ ys j (by rw [hS.ly]; exact hj)]
                refine gl_nil ?_
                refine ge_imp (own_nil0 (e := 28) (sz := 1)) ?_
                refine ge_imp (fs (i := j) (l := ys.map rA) (A := rA ⟨kd, v0, none, 0, 0, []⟩) (by repeat (first | exact .head | apply Sel.tail)) (by repeat (first | exact .head | apply Sel.tail)) (by simp [hS.ly, hj])) ?_
                refine ge_imp (fs (i := j) (l := xs.map (oA r)) (A := oA r (some (p2, beginO kd v0))) (by repeat (first | exact .head | apply Sel.tail)) (by repeat (first | exact .head | apply Sel.tail)) (by simp [hS.lx, hj])) ?_
                have hS' := hS.set (L' := L) rfl hS.li hj (some (p2, beginO kd v0)) ⟨kd, v0, none, 0, 0, []⟩ ⟨⟨by unfold beginO; dsimp only; (repeat' split) <;> decide, by unfold beginO; dsimp only; split <;> omega, by unfold beginO; dsimp only; split <;> omega, Int.le_refl 0, (show (0 : Int) ≤ 18446744073709551615 by decide), Int.le_refl 0, (show (0 : Int) ≤ 18446744073709551615 by decide)⟩, RelN.start b n kd v0 (by omega), by show 1 ≤ (kd : Int) ∧ (kd : Int) ≤ 5; omega, hr3, fun x hx => (by cases hx), rfl, Nat.zero_le _⟩
                refine ge_then ?_
                refine g_seq ?_
                refine g_region ?_
                refine gl_v rfl (o_move rfl) ?_
                refine gl_v rfl (o_move rfl) ?_
                refine gl_v rfl (o_idxS rfl rfl (by first | assumption | omega)) ?_
                refine gl_v rfl (o_loadS rfl (by rw [Nat.mul_one]; simp [hS.lx, hj]; rfl)) ?_
                first | refine gl_v rfl (o_eqlPn rfl rfl) ?_ | refine gl_v rfl (o_eqlnn rfl rfl) ?_
                refine gl_nil ?_
                refine ge_then ?_
                refine g_cond_false (rfl) ?_
                refine g_skip ?_
                exact fun act wo hsl st => ⟨L, t, tr, _, _, hS', ht0, by omega, hsl.keep (Keep.cons rfl (Keep.cons rfl (Keep.cons rfl (Keep.cons rfl (Keep.cons rfl (Keep.cons rfl (Keep.cons rfl (Keep.cons rfl (Keep.cons rfl (Keep.nil)))))))))), st.imp (by simp only [List.map_set]; exact (To.sat (by repeat (first | exact .nil | exact .done .refl | (apply To.cons; · (repeat (first | exact .head | apply Sel.tail))) | exact .done (by repeat (first | exact .refl | apply Drop.skip))))))⟩
            ·
              first | replace hc5 := of_decide_eq_true hc5 | replace hc5 := lt_f hc5 | replace hc5 := le_f hc5 | replace hc5 := dec_f hc5 | replace hc5 := nlt_t hc5 | replace hc5 := nle_t hc5 | replace hc5 := ndec_t hc5 | replace hc5 := ndec_f hc5 | replace hc5 := nn_t hc5 | replace hc5 := nn_f hc5 | skip
              refine g_seq ?_
              have hxv : (xs.map oV)[j * 1]? = some (oV x) := by rw [Nat.mul_one]; exact map_at' hx
              refine g_region ?_
              refine gl_v rfl (o_move rfl) ?_
              refine gl_v rfl (o_move rfl) ?_
              refine gl_v rfl (o_idxS rfl rfl (by first | assumption | omega)) ?_
              refine gl_v rfl (o_loadS rfl hxv) ?_
              refine gl_v rfl (o_neqO rfl rfl) ?_
              refine gl_nil ?_
              refine ge_then ?_
              refine g_cond rfl (fun hc7 => ?_) (fun hc7 => ?_)
              ·
                first | replace hc7 := of_decide_eq_true hc7 | replace hc7 := lt_f hc7 | replace hc7 := le_f hc7 | replace hc7 := dec_f hc7 | replace hc7 := nlt_t hc7 | replace hc7 := nle_t hc7 | replace hc7 := ndec_t hc7 | replace hc7 := ndec_f hc7 | replace hc7 := nn_t hc7 | replace hc7 := nn_f hc7 | skip
                obtain ⟨⟨p, o⟩, rfl⟩ : ∃ q, x = some q := by cases x with | none => cases hc7 | some q => exact ⟨q, rfl⟩
                obtain ⟨yk, yv, ya, yc, ykk, yl⟩ := y
                obtain rfl : ykk = yl.length := hxy.2.2.2.2.2.1
                refine g_seq ?_
                refine g_region ?_
                refine gl_v rfl (o_move rfl) ?_
                refine gl_c rfl (o_call rfl (Touched_spec m L t) (by repeat (first | exact .nil | (apply Part.cons; · (repeat (first | exact .head | apply Sel.tail)))))) ?_
                rintro _ R ⟨_, ⟨rfl, rfl⟩, rfl⟩
                try simp only [List.cons_append, List.nil_append]
                refine gl_v rfl (o_assign rfl) ?_
                refine gl_nil ?_
                refine ge_then ?_
                refine g_seq ?_
                refine g_fo (l := xs.map (oA r)) (i := j) (A := opA p r o) (by repeat (first | exact .head | apply Sel.tail)) (map_at' (f := oA r) hx) ?_
                refine g_region ?_
                refine gl_v rfl (o_move rfl) ?_
                refine gl_v rfl (o_move rfl) ?_
                refine gl_v rfl (o_idxS rfl rfl (by first | assumption | omega)) ?_
                refine gl_v rfl (o_loadS rfl hxv) ?_
                refine gl_c rfl (o_call rfl (Step_spec p r m b n L t o (hS.RI h1 h7 hb) hxy.1) (by repeat (first | exact .nil | (apply Part.cons; · (repeat (first | exact .head | apply Sel.tail)))))) ?_
                rintro _ R ⟨_, ⟨rfl, rfl⟩, rfl⟩
                try simp only [List.cons_append, List.nil_append]
                refine gl_v rfl (o_assign rfl) ?_
                refine gl_nil ?_
                refine ge_then ?_
                refine g_seq ?_
                refine g_seq ?_
                refine g_region ?_
                refine gl_v rfl (o_move rfl) ?_
                refine gl_v rfl (o_move rfl) ?_
                refine gl_c rfl (o_call rfl (Touched_spec m (goL b n L o) (if o.over then t else tup t)) (by repeat (first | exact .nil | (apply Part.cons; · (repeat (first | exact .head | apply Sel.tail)))))) ?_
                rintro _ R ⟨_, ⟨rfl, rfl⟩, rfl⟩
                try simp only [List.cons_append, List.nil_append]
                refine gl_v rfl (o_move rfl) ?_
                refine gl_v rfl (o_eql rfl rfl) ?_
                refine gl_v rfl (o_is (c := false) (touched_same ht0 (by omega)) (o_neqb rfl rfl)) ?_
                refine gl_v rfl (o_move rfl) ?_
                refine gl_gT rfl rfl rfl ?_
                refine gl_v rfl (o_move rfl) ?_
                refine gl_gT rfl rfl rfl ?_
                refine gl_c rfl (o_call rfl (Touched_spec m (goL b n L o) (if o.over then t else tup t)) (by repeat (first | exact .nil | (apply Part.cons; · (repeat (first | exact .head | apply Sel.tail)))))) ?_
                rintro _ R ⟨_, ⟨rfl, rfl⟩, rfl⟩
                try simp only [List.cons_append, List.nil_append]
                refine gl_gT rfl rfl rfl ?_
                refine gl_v rfl (o_move rfl) ?_
                refine gl_gT rfl rfl rfl ?_
                refine gl_v rfl (o_addR (t + 1) (wr_i64 (by omega)) rfl rfl) ?_
                refine gl_gT rfl rfl rfl ?_
                refine gl_v rfl (o_is (c := false) (touched_up ht0 (by omega)) (o_gtr rfl rfl)) ?_
                refine gl_v rfl (o_pickF rfl rfl rfl) ?_
                refine gl_v rfl (o_move rfl) ?_
                refine gl_gT rfl rfl rfl ?_
                refine gl_v rfl (o_move rfl) ?_
                refine gl_gT rfl rfl rfl ?_
                refine gl_v rfl (o_move rfl) ?_
                refine gl_gT rfl rfl rfl ?_
                refine gl_v rfl (o_move rfl) ?_
                refine gl_gT rfl rfl rfl ?_
                refine gl_v rfl (o_idxS rfl rfl (by first | assumption | omega)) ?_
                refine gl_gT rfl rfl rfl ?_
                refine gl_v rfl (o_loadS rfl hxv) ?_
                refine gl_gT rfl rfl rfl ?_
                refine gl_c rfl (o_call rfl (Over_spec p r (goO b n L o)) (by repeat (first | exact .nil | (apply Part.cons; · (repeat (first | exact .head | apply Sel.tail)))))) ?_
                rintro _ R ⟨_, ⟨rfl, rfl⟩, rfl⟩
                try simp only [List.cons_append, List.nil_append]
                refine gl_gT rfl rfl rfl ?_
                refine gl_v rfl (o_is (c := false) (by simp) (o_neqb rfl rfl)) ?_
                refine gl_v rfl (o_pickF rfl rfl rfl) ?_
                refine gl_nil ?_
                refine ge_then ?_
                refine g_cond_false rfl ?_
                refine g_skip ?_
                refine ge_then ?_
                refine g_fo (l := ys.map rA) (i := j) (A := own (.slice ya yl.length yc) 28 1 yl.length (yl.map U64)) (by repeat (first | exact .head | apply Sel.tail)) (map_at' (f := rA) hy) ?_
                refine g_draw [8, 10] [8] [(0, .stab), (1, .stab), (2, .loc), (3, .loc), (4, .loc), (5, .loc), (6, .loc), (7, .loc), (8, .eff), (9, .loc), (10, .eff)] [own (.slice a66 6 c66) 71 3 6 (ys.flatMap rV)] mixed (by kernel_rfl) ?_
                refine go_vs rfl .none rfl (o_move rfl) (To.sat (by repeat (first | exact .nil | exact .done .refl | (apply To.cons; · (repeat (first | exact .head | apply Sel.tail))) | exact .done (by repeat (first | exact .refl | apply Drop.skip))))) ?_
                refine go_vs rfl .none rfl (o_move rfl) (To.sat (by repeat (first | exact .nil | exact .done .refl | (apply To.cons; · (repeat (first | exact .head | apply Sel.tail))) | exact .done (by repeat (first | exact .refl | apply Drop.skip))))) ?_
                refine go_v rfl .none rfl (o_move rfl) ?_
                first | refine go_v rfl .none rfl (o_loadSA rfl rfl rfl) ?_ | refine go_v rfl .none rfl (o_loadA rfl rfl rfl) ?_
                refine go_v rfl .none rfl (o_move rfl) ?_
                refine go_v rfl .none rfl (o_move rfl) ?_
                refine go_v rfl .none rfl (o_idxS rfl rfl (by first | assumption | omega)) ?_
                refine go_v rfl .none rfl (o_loadSA rfl (flat_take rV 3 (fun _ => rfl) hy) rfl) ?_
                refine go_c rfl .none rfl (o_call rfl (rstep_spec w b n h1 h7 hb6 yk yv hxy.2.2.1 hxy.2.2.2.1 ya yc yl hxy.2.2.2.2.1 (by have := hxy.2.2.2.2.2.2; simp only at this; omega) L tr (by rw [hS.len]; omega) hS.li o hxy.2.1) (by repeat (first | exact .nil | (apply Part.cons; · (repeat (first | exact .head | apply Sel.tail)))))) ?_
                rintro _ R ⟨_, ⟨a', c', l', tr', rfl, hR', hl', hln', rfl⟩, rfl⟩
                try simp only [List.cons_append, List.nil_append]
                refine ⟨(fun _ => (To.sat (by repeat (first | exact .nil | exact .done .refl | (apply To.cons; · (repeat (first | exact .head | apply Sel.tail))) | exact .done (by repeat (first | exact .refl | apply Drop.skip)))))), ?_⟩
                refine go_v rfl .none rfl (o_idxS rfl rfl (by first | assumption | omega)) ?_
                refine go_u rfl .none (o_storeSA (vs := rV ⟨yk, yv, a', c', l'.length, l'⟩) rfl rfl rfl rfl (by rw [flat_length rV 3 (fun _ => rfl), hS.ly]; show j * 3 + 3 ≤ 18; omega) (show 0 < 3 by decide)) (fun hG => absurd hG (by decide)) ?_
                rw [splice_flat rV 3 (fun _ => rfl) ⟨yk, yv, a', c', l'.length, l'⟩ ys j (by rw [hS.ly]; exact hj)]
                refine go_nil ?_
                refine ge_imp (fs (i := j) (l := ys.map rA) (A := rA ⟨yk, yv, a', c', l'.length, l'⟩) (by repeat (first | exact .head | apply Sel.tail)) (by repeat (first | exact .head | apply Sel.tail)) (by simp [hS.ly, hj])) ?_
                refine ge_imp (fs (i := j) (l := xs.map (oA r)) (A := oA r (some (p, goO b n L o))) (by repeat (first | exact .head | apply Sel.tail)) (by repeat (first | exact .head | apply Sel.tail)) (by simp [hS.lx, hj])) ?_
                have hS' := hS.set (L' := goL b n L o) (goL_len ..) (goL_in hS.li hxy.1) hj (some (p, goO b n L o)) ⟨yk, yv, a', c', l'.length, l'⟩ ⟨goO_in hS.li hxy.1, hR', hxy.2.2.1, hxy.2.2.2.1, hl', rfl, by have := hxy.2.2.2.2.2.2; simp only at this ⊢; omega⟩
                have hti := touched_in (o := o) ht0 (by omega)
                have hov : (xs.set j (some (p, goO b n L o))).map oV = xs.map oV := by rw [List.map_set]; exact map_sameP (f := oV) (y := some (p, o)) hx
                exact fun act wo hsl st => ⟨goL b n L o, _, tr', _, _, hS', hti.1, by omega, hsl.keep (Keep.cons rfl (Keep.cons rfl (Keep.cons rfl (Keep.cons rfl (Keep.cons rfl (Keep.cons rfl (Keep.cons rfl (Keep.cons rfl (Keep.cons rfl (Keep.nil)))))))))), st.imp (by rw [hov]; simp only [List.map_set]; exact (To.sat (by repeat (first | exact .nil | exact .done .refl | (apply To.cons; · (repeat (first | exact .head | apply Sel.tail))) | exact .done (by repeat (first | exact .refl | apply Drop.skip))))))⟩
              ·
                first | replace hc7 := of_decide_eq_true hc7 | replace hc7 := lt_f hc7 | replace hc7 := le_f hc7 | replace hc7 := dec_f hc7 | replace hc7 := nlt_t hc7 | replace hc7 := nle_t hc7 | replace hc7 := ndec_t hc7 | replace hc7 := ndec_f hc7 | replace hc7 := nn_t hc7 | replace hc7 := nn_f hc7 | skip
                refine g_skip ?_
                exact fun act wo hsl st => ⟨L, t, tr, xs, ys, hS.mono (by omega), ht0, by omega, hsl.keep (Keep.cons rfl (Keep.cons rfl (Keep.cons rfl (Keep.cons rfl (Keep.cons rfl (Keep.cons rfl (Keep.cons rfl (Keep.cons rfl (Keep.cons rfl (Keep.nil)))))))))), st.imp (To.sat (by repeat (first | exact .nil | exact .done .refl | (apply To.cons; · (repeat (first | exact .head | apply Sel.tail))) | exact .done (by repeat (first | exact .refl | apply Drop.skip)))))⟩
          ·
            have hc4' := hc4
            first | replace hc4' := of_decide_eq_true hc4' | replace hc4' := lt_f hc4' | replace hc4' := le_f hc4' | replace hc4' := dec_f hc4' | replace hc4' := nlt_t hc4' | replace hc4' := nle_t hc4' | replace hc4' := ndec_t hc4' | replace hc4' := ndec_f hc4' | replace hc4' := nn_t hc4' | replace hc4' := nn_f hc4' | skip
            simp only [putO]
            refine gl_gF rfl rfl hc4 rfl ?_
            refine gl_v rfl (o_pickF hc4 rfl rfl) ?_
            refine gl_nil ?_
            refine ge_then ?_
            refine g_cond_false rfl ?_
            refine g_seq ?_
            have hxv : (xs.map oV)[j * 1]? = some (oV x) := by rw [Nat.mul_one]; exact map_at' hx
            refine g_region ?_
            refine gl_v rfl (o_move rfl) ?_
            refine gl_v rfl (o_move rfl) ?_
            refine gl_v rfl (o_idxS rfl rfl (by first | assumption | omega)) ?_
            refine gl_v rfl (o_loadS rfl hxv) ?_
            refine gl_v rfl (o_neqO rfl rfl) ?_
            refine gl_nil ?_
            refine ge_then ?_
            refine g_cond rfl (fun hc8 => ?_) (fun hc8 => ?_)
            ·
              first | replace hc8 := of_decide_eq_true hc8 | replace hc8 := lt_f hc8 | replace hc8 := le_f hc8 | replace hc8 := dec_f hc8 | replace hc8 := nlt_t hc8 | replace hc8 := nle_t hc8 | replace hc8 := ndec_t hc8 | replace hc8 := ndec_f hc8 | replace hc8 := nn_t hc8 | replace hc8 := nn_f hc8 | skip
              obtain ⟨⟨p, o⟩, rfl⟩ : ∃ q, x = some q := by cases x with | none => cases hc8 | some q => exact ⟨q, rfl⟩
              obtain ⟨yk, yv, ya, yc, ykk, yl⟩ := y
              obtain rfl : ykk = yl.length := hxy.2.2.2.2.2.1
              refine g_seq ?_
              refine g_region ?_
              refine gl_v rfl (o_move rfl) ?_
              refine gl_c rfl (o_call rfl (Touched_spec m L t) (by repeat (first | exact .nil | (apply Part.cons; · (repeat (first | exact .head | apply Sel.tail)))))) ?_
              rintro _ R ⟨_, ⟨rfl, rfl⟩, rfl⟩
              try simp only [List.cons_append, List.nil_append]
              refine gl_v rfl (o_assign rfl) ?_
              refine gl_nil ?_
              refine ge_then ?_
              refine g_seq ?_
              refine g_fo (l := xs.map (oA r)) (i := j) (A := opA p r o) (by repeat (first | exact .head | apply Sel.tail)) (map_at' (f := oA r) hx) ?_
              refine g_region ?_
              refine gl_v rfl (o_move rfl) ?_
              refine gl_v rfl (o_move rfl) ?_
              refine gl_v rfl (o_idxS rfl rfl (by first | assumption | omega)) ?_
              refine gl_v rfl (o_loadS rfl hxv) ?_
              refine gl_c rfl (o_call rfl (Step_spec p r m b n L t o (hS.RI h1 h7 hb) hxy.1) (by repeat (first | exact .nil | (apply Part.cons; · (repeat (first | exact .head | apply Sel.tail)))))) ?_
              rintro _ R ⟨_, ⟨rfl, rfl⟩, rfl⟩
              try simp only [List.cons_append, List.nil_append]
              refine gl_v rfl (o_assign rfl) ?_
              refine gl_nil ?_
              refine ge_then ?_
              refine g_seq ?_
              refine g_seq ?_
              refine g_region ?_
              refine gl_v rfl (o_move rfl) ?_
              refine gl_v rfl (o_move rfl) ?_
              refine gl_c rfl (o_call rfl (Touched_spec m (goL b n L o) (if o.over then t else tup t)) (by repeat (first | exact .nil | (apply Part.cons; · (repeat (first | exact .head | apply Sel.tail)))))) ?_
              rintro _ R ⟨_, ⟨rfl, rfl⟩, rfl⟩
              try simp only [List.cons_append, List.nil_append]
              refine gl_v rfl (o_move rfl) ?_
              refine gl_v rfl (o_eql rfl rfl) ?_
              refine gl_v rfl (o_is (c := false) (touched_same ht0 (by omega)) (o_neqb rfl rfl)) ?_
              refine gl_v rfl (o_move rfl) ?_
              refine gl_gT rfl rfl rfl ?_
              refine gl_v rfl (o_move rfl) ?_
              refine gl_gT rfl rfl rfl ?_
              refine gl_c rfl (o_call rfl (Touched_spec m (goL b n L o) (if o.over then t else tup t)) (by repeat (first | exact .nil | (apply Part.cons; · (repeat (first | exact .head | apply Sel.tail)))))) ?_
              rintro _ R ⟨_, ⟨rfl, rfl⟩, rfl⟩
              try simp only [List.cons_append, List.nil_append]
              refine gl_gT rfl rfl rfl ?_
              refine gl_v rfl (o_move rfl) ?_
              refine gl_gT rfl rfl rfl ?_
              refine gl_v rfl (o_addR (t + 1) (wr_i64 (by omega)) rfl rfl) ?_
              refine gl_gT rfl rfl rfl ?_
              refine gl_v rfl (o_is (c := false) (touched_up ht0 (by omega)) (o_gtr rfl rfl)) ?_
              refine gl_v rfl (o_pickF rfl rfl rfl) ?_
              refine gl_v rfl (o_move rfl) ?_
              refine gl_gT rfl rfl rfl ?_
              refine gl_v rfl (o_move rfl) ?_
              refine gl_gT rfl rfl rfl ?_
              refine gl_v rfl (o_move rfl) ?_
              refine gl_gT rfl rfl rfl ?_
              refine gl_v rfl (o_move rfl) ?_
              refine gl_gT rfl rfl rfl ?_
              refine gl_v rfl (o_idxS rfl rfl (by first | assumption | omega)) ?_
              refine gl_gT rfl rfl rfl ?_
              refine gl_v rfl (o_loadS rfl hxv) ?_
              refine gl_gT rfl rfl rfl ?_
              refine gl_c rfl (o_call rfl (Over_spec p r (goO b n L o)) (by repeat (first | exact .nil | (apply Part.cons; · (repeat (first | exact .head | apply Sel.tail)))))) ?_
              rintro _ R ⟨_, ⟨rfl, rfl⟩, rfl⟩
              try simp only [List.cons_append, List.nil_append]
              refine gl_gT rfl rfl rfl ?_
              refine gl_v rfl (o_is (c := false) (by simp) (o_neqb rfl rfl)) ?_
              refine gl_v rfl (o_pickF rfl rfl rfl) ?_
              refine gl_nil ?_
              refine ge_then ?_
              refine g_cond_false rfl ?_
              refine g_skip ?_
              refine ge_then ?_
              refine g_fo (l := ys.map rA) (i := j) (A := own (.slice ya yl.length yc) 28 1 yl.length (yl.map U64)) (by repeat (first | exact .head | apply Sel.tail)) (map_at' (f := rA) hy) ?_
              refine g_draw [8, 10] [8] [(0, .stab), (1, .stab), (2, .loc), (3, .loc), (4, .loc), (5, .loc), (6, .loc), (7, .loc), (8, .eff), (9, .loc), (10, .eff)] [own (.slice a66 6 c66) 71 3 6 (ys.flatMap rV)] mixed (by kernel_rfl) ?_
              refine go_vs rfl .none rfl (o_move rfl) (To.sat (by repeat (first | exact .nil | exact .done .refl | (apply To.cons; · (repeat (first | exact .head | apply Sel.tail))) | exact .done (by repeat (first | exact .refl | apply Drop.skip))))) ?_
              refine go_vs rfl .none rfl (o_move rfl) (To.sat (by repeat (first | exact .nil | exact .done .refl | (apply To.cons; · (repeat (first | exact .head | apply Sel.tail))) | exact .done (by repeat (first | exact .refl | apply Drop.skip))))) ?_
              refine go_v rfl .none rfl (o_move rfl) ?_
              first | refine go_v rfl .none rfl (o_loadSA rfl rfl rfl) ?_ | refine go_v rfl .none rfl (o_loadA rfl rfl rfl) ?_
              refine go_v rfl .none rfl (o_move rfl) ?_
              refine go_v rfl .none rfl (o_move rfl) ?_
              refine go_v rfl .none rfl (o_idxS rfl rfl (by first | assumption | omega)) ?_
              refine go_v rfl .none rfl (o_loadSA rfl (flat_take rV 3 (fun _ => rfl) hy) rfl) ?_
              refine go_c rfl .none rfl (o_call rfl (rstep_spec w b n h1 h7 hb6 yk yv hxy.2.2.1 hxy.2.2.2.1 ya yc yl hxy.2.2.2.2.1 (by have := hxy.2.2.2.2.2.2; simp only at this; omega) L tr (by rw [hS.len]; omega) hS.li o hxy.2.1) (by repeat (first | exact .nil | (apply Part.cons; · (repeat (first | exact .head | apply Sel.tail)))))) ?_
              rintro _ R ⟨_, ⟨a', c', l', tr', rfl, hR', hl', hln', rfl⟩, rfl⟩
              try simp only [List.cons_append, List.nil_append]
              refine ⟨(fun _ => (To.sat (by repeat (first | exact .nil | exact .done .refl | (apply To.cons; · (repeat (first | exact .head | apply Sel.tail))) | exact .done (by repeat (first | exact .refl | apply Drop.skip)))))), ?_⟩
              refine go_v rfl .none rfl (o_idxS rfl rfl (by first | assumption | omega)) ?_
              refine go_u rfl .none (o_storeSA (vs := rV ⟨yk, yv, a', c', l'.length, l'⟩) rfl rfl rfl rfl (by rw [flat_length rV 3 (fun _ => rfl), hS.ly]; show j * 3 + 3 ≤ 18; omega) (show 0 < 3 by decide)) (fun hG => absurd hG (by decide)) ?_
              rw [splice_flat rV 3 (fun _ => rfl) ⟨yk, yv, a', c', l'.length, l'⟩ ys j (by rw [hS.ly]; exact hj)]
              refine go_nil ?_
              refine ge_imp (fs (i := j) (l := ys.map rA) (A := rA ⟨yk, yv, a', c', l'.length, l'⟩) (by repeat (first | exact .head | apply Sel.tail)) (by repeat (first | exact .head | apply Sel.tail)) (by simp [hS.ly, hj])) ?_
              refine ge_imp (fs (i := j) (l := xs.map (oA r)) (A := oA r (some (p, goO b n L o))) (by repeat (first | exact .head | apply Sel.tail)) (by repeat (first | exact .head | apply Sel.tail)) (by simp [hS.lx, hj])) ?_
              have hS' := hS.set (L' := goL b n L o) (goL_len ..) (goL_in hS.li hxy.1) hj (some (p, goO b n L o)) ⟨yk, yv, a', c', l'.length, l'⟩ ⟨goO_in hS.li hxy.1, hR', hxy.2.2.1, hxy.2.2.2.1, hl', rfl, by have := hxy.2.2.2.2.2.2; simp only at this ⊢; omega⟩
              have hti := touched_in (o := o) ht0 (by omega)
              have hov : (xs.set j (some (p, goO b n L o))).map oV = xs.map oV := by rw [List.map_set]; exact map_sameP (f := oV) (y := some (p, o)) hx
              exact fun act wo hsl st => ⟨goL b n L o, _, tr', _, _, hS', hti.1, by omega, hsl.keep (Keep.cons rfl (Keep.cons rfl (Keep.cons rfl (Keep.cons rfl (Keep.cons rfl (Keep.cons rfl (Keep.cons rfl (Keep.cons rfl (Keep.cons rfl (Keep.nil)))))))))), st.imp (by rw [hov]; simp only [List.map_set]; exact (To.sat (by repeat (first | exact .nil | exact .done .refl | (apply To.cons; · (repeat (first | exact .head | apply Sel.tail))) | exact .done (by repeat (first | exact .refl | apply Drop.skip))))))⟩
            ·
              first | replace hc8 := of_decide_eq_true hc8 | replace hc8 := lt_f hc8 | replace hc8 := le_f hc8 | replace hc8 := dec_f hc8 | replace hc8 := nlt_t hc8 | replace hc8 := nle_t hc8 | replace hc8 := ndec_t hc8 | replace hc8 := ndec_f hc8 | replace hc8 := nn_t hc8 | replace hc8 := nn_f hc8 | skip
              refine g_skip ?_
              exact fun act wo hsl st => ⟨L, t, tr, xs, ys, hS.mono (by omega), ht0, by omega, hsl.keep (Keep.cons rfl (Keep.cons rfl (Keep.cons rfl (Keep.cons rfl (Keep.cons rfl (Keep.cons rfl (Keep.cons rfl (Keep.cons rfl (Keep.cons rfl (Keep.nil)))))))))), st.imp (To.sat (by repeat (first | exact .nil | exact .done .refl | (apply To.cons; · (repeat (first | exact .head | apply Sel.tail))) | exact .done (by repeat (first | exact .refl | apply Drop.skip)))))⟩
        ·
          rintro act wo ⟨L, t, tr, xs, ys, hS, ht0, ht1, hsl, st⟩
          refine g_of ?_ hsl st
          clear hsl st act wo
          refine g_seq ?_
          obtain ⟨x, y, hx, hy, hxy⟩ := hS.all j hj
          have hxv : (xs.map oV)[j * 1]? = some (oV x) := by rw [Nat.mul_one]; exact map_at' hx
          obtain ⟨yk, yv, ya, yc, ykk, yl⟩ := y
          refine g_fo (l := xs.map (oA r)) (i := j) (A := oA r x) (by repeat (first | exact .head | apply Sel.tail)) (map_at' (f := oA r) hx) ?_
          refine g_fo (l := ys.map rA) (i := j) (A := own (.slice ya ykk yc) 28 1 ykk (yl.map U64)) (by repeat (first | exact .head | apply Sel.tail)) (map_at' (f := rA) hy) ?_
          refine g_imp (fun h s => Sel.to (A := rmemA w L tr) (by repeat (first | exact .head | apply Sel.tail)) s) ?_
          refine g_open .head ?_
          rintro ⟨ax, cx⟩ -
          simp only [List.cons_append, List.nil_append]
          refine g_draw [15, 16, 21, 26] [15, 21] [(0, .loc), (1, .loc), (2, .loc), (3, .loc), (4, .loc), (5, .loc), (6, .stab), (7, .stab), (8, .stab), (9, .stab), (10, .loc), (11, .loc), (12, .loc), (13, .loc), (14, .loc), (15, .eff), (16, .eff), (17, .loc), (18, .loc), (19, .loc), (20, .loc), (22, .stab), (23, .stab), (24, .stab), (25, .stab), (21, .eff), (26, .eff), (27, .loc), (28, .loc)] [own (.slice a65 6 c65) 50 1 6 (xs.map oV), own (.slice a66 6 c66) 71 3 6 (ys.flatMap rV), cel b12 42 [I64 b, I64 n], cel w 37 [.slice ax L.length cx, I64 tr]] mixed (by kernel_rfl) ?_
          refine go_v rfl .none rfl (o_move rfl) ?_
          refine go_v rfl .none rfl (o_move rfl) ?_
          refine go_v rfl .none rfl (o_idxS rfl rfl (by first | assumption | omega)) ?_
          refine go_v rfl .none rfl (o_loadS rfl hxv) ?_
          refine go_v rfl .none rfl (o_neqO rfl rfl) ?_
          refine go_v rfl .none rfl (o_move rfl) ?_
          refine go_split (j := 5) rfl rfl (fun hc9 => ?_) (fun hc9 => ?_)
          ·
            have hc9' := hc9
            first | replace hc9' := of_decide_eq_true hc9' | replace hc9' := lt_f hc9' | replace hc9' := le_f hc9' | replace hc9' := dec_f hc9' | replace hc9' := nlt_t hc9' | replace hc9' := nle_t hc9' | replace hc9' := ndec_t hc9' | replace hc9' := ndec_f hc9' | replace hc9' := nn_t hc9' | replace hc9' := nn_f hc9' | skip
            obtain ⟨⟨p, o⟩, rfl⟩ : ∃ q, x = some q := by cases x with | none => simp at * | some q => exact ⟨q, rfl⟩
            obtain rfl : ykk = yl.length := hxy.2.2.2.2.2.1
            refine go_vs rfl (.yes rfl rfl hc9) rfl (o_move rfl) (To.sat (by repeat (first | exact .nil | exact .done .refl | (apply To.cons; · (repeat (first | exact .head | apply Sel.tail))) | exact .done (by repeat (first | exact .refl | apply Drop.skip))))) ?_
            refine go_vs rfl (.yes rfl rfl hc9) rfl (o_move rfl) (To.sat (by repeat (first | exact .nil | exact .done .refl | (apply To.cons; · (repeat (first | exact .head | apply Sel.tail))) | exact .done (by repeat (first | exact .refl | apply Drop.skip))))) ?_
            refine go_vs rfl (.yes rfl rfl hc9) rfl (o_idxS rfl rfl (by first | assumption | omega)) (To.sat (by repeat (first | exact .nil | exact .done .refl | (apply To.cons; · (repeat (first | exact .head | apply Sel.tail))) | exact .done (by repeat (first | exact .refl | apply Drop.skip))))) ?_
            refine go_vs rfl (.yes rfl rfl hc9) rfl (o_loadS rfl hxv) (To.sat (by repeat (first | exact .nil | exact .done .refl | (apply To.cons; · (repeat (first | exact .head | apply Sel.tail))) | exact .done (by repeat (first | exact .refl | apply Drop.skip))))) ?_
            first | refine go_v rfl (.yes rfl rfl hc9) rfl (o_loadSA rfl rfl rfl) ?_ | refine go_v rfl (.yes rfl rfl hc9) rfl (o_loadA rfl rfl rfl) ?_
            refine go_v rfl (.yes rfl rfl hc9) rfl (o_move rfl) ?_
            refine go_v rfl (.yes rfl rfl hc9) rfl (o_move rfl) ?_
            refine go_v rfl (.yes rfl rfl hc9) rfl (o_idxS rfl rfl (by first | assumption | omega)) ?_
            refine go_v rfl (.yes rfl rfl hc9) rfl (o_loadSA rfl (flat_take rV 3 (fun _ => rfl) hy) rfl) ?_
            refine go_c rfl (.yes rfl rfl hc9) rfl (o_call rfl (rnext_spec b n h1 h7 hb6 yk yv hxy.2.2.1 ya yc yl hxy.2.2.2.2.1 (by have := hxy.2.2.2.2.2.2; simp only at this; omega) (own (.slice ya yl.length yc) 28 1 yl.length (yl.map U64))) (by repeat (first | exact .nil | (apply Part.cons; · (repeat (first | exact .head | apply Sel.tail)))))) ?_
            rintro _ R ⟨_, ⟨rfl, rfl⟩, rfl⟩
            try simp only [List.cons_append, List.nil_append]
            refine ⟨(fun _ => (To.sat (by repeat (first | exact .nil | exact .done .refl | (apply To.cons; · (repeat (first | exact .head | apply Sel.tail))) | exact .done (by repeat (first | exact .refl | apply Drop.skip)))))), ?_⟩
            refine go_c rfl (.yes rfl rfl hc9) rfl (o_call rfl (like_spec p r o (nextN b n yk yv yl) hxy.2.1.like) (by repeat (first | exact .nil | (apply Part.cons; · (repeat (first | exact .head | apply Sel.tail)))))) ?_
            rintro _ R ⟨_, ⟨rfl, rfl⟩, rfl⟩
            try simp only [List.cons_append, List.nil_append]
            refine ⟨(fun hG => absurd hG (by decide)), ?_⟩
            refine go_v rfl (.yes rfl rfl hc9) rfl (o_is (c := false) (by rfl) (o_not rfl)) ?_
            refine go_v rfl .none rfl (o_pickT hc9 rfl rfl) ?_
            refine go_v rfl .none rfl (o_move rfl) ?_
            refine go_v rfl (.yes rfl rfl rfl) rfl (o_move rfl) ?_
            refine go_vs rfl (.yes rfl rfl rfl) rfl (o_move rfl) (To.sat (by repeat (first | exact .nil | exact .done .refl | (apply To.cons; · (repeat (first | exact .head | apply Sel.tail))) | exact .done (by repeat (first | exact .refl | apply Drop.skip))))) ?_
            refine go_vs rfl (.yes rfl rfl rfl) rfl (o_nil rfl) (To.sat (by repeat (first | exact .nil | exact .done .refl | (apply To.cons; · (repeat (first | exact .head | apply Sel.tail))) | exact .done (by repeat (first | exact .refl | apply Drop.skip))))) ?_
            first | refine go_vs rfl (.yes rfl rfl rfl) rfl (o_fldS rfl) (To.sat (by repeat (first | exact .nil | exact .done .refl | (apply To.cons; · (repeat (first | exact .head | apply Sel.tail))) | exact .done (by repeat (first | exact .refl | apply Drop.skip))))) ?_ | refine go_vs rfl (.yes rfl rfl rfl) rfl (o_fld rfl) (To.sat (by repeat (first | exact .nil | exact .done .refl | (apply To.cons; · (repeat (first | exact .head | apply Sel.tail))) | exact .done (by repeat (first | exact .refl | apply Drop.skip))))) ?_
            first | refine go_vs rfl (.yes rfl rfl rfl) rfl (o_load rfl rfl) (To.sat (by repeat (first | exact .nil | exact .done .refl | (apply To.cons; · (repeat (first | exact .head | apply Sel.tail))) | exact .done (by repeat (first | exact .refl | apply Drop.skip))))) ?_ | refine go_vs rfl (.yes rfl rfl rfl) rfl (o_loadS rfl rfl) (To.sat (by repeat (first | exact .nil | exact .done .refl | (apply To.cons; · (repeat (first | exact .head | apply Sel.tail))) | exact .done (by repeat (first | exact .refl | apply Drop.skip))))) ?_ | refine go_vs rfl (.yes rfl rfl rfl) rfl (o_loadC rfl) (To.sat (by repeat (first | exact .nil | exact .done .refl | (apply To.cons; · (repeat (first | exact .head | apply Sel.tail))) | exact .done (by repeat (first | exact .refl | apply Drop.skip))))) ?_
            refine go_c rfl (.yes rfl rfl rfl) rfl (o_call rfl (All_spec m L t (by rw [hS.len]; omega)) (by repeat (first | exact .nil | (apply Part.cons; · (repeat (first | exact .head | apply Sel.tail)))))) ?_
            rintro _ R ⟨_, ⟨a9, c9, rfl, rfl⟩, rfl⟩
            try simp only [List.cons_append, List.nil_append]
            refine ⟨(fun _ => (To.sat (by repeat (first | exact .nil | exact .done .refl | (apply To.cons; · (repeat (first | exact .head | apply Sel.tail))) | exact .done (by repeat (first | exact .refl | apply Drop.skip)))))), ?_⟩
            refine go_c rfl (.yes rfl rfl rfl) rfl (o_call rfl (rSame_spec (.slice a9 L.length c9) (.slice ax L.length cx) L L (by rw [hS.len]; omega) (by rw [hS.len]; omega) (own (.slice a9 L.length c9) 28 1 L.length (L.map U64)) (own (.slice ax L.length cx) 28 1 L.length (L.map U64))) (by repeat (first | exact .nil | (apply Part.cons; · (repeat (first | exact .head | apply Sel.tail)))))) ?_
            rintro _ R ⟨_, ⟨rfl, rfl⟩, rfl⟩
            try simp only [List.cons_append, List.nil_append]
            refine ⟨(fun hG => absurd hG (by decide)), ?_⟩
            refine go_v rfl (.yes rfl rfl rfl) rfl (o_is (c := false) (by simp) (o_not rfl)) ?_
            refine go_v rfl .none rfl (o_pickF rfl rfl rfl) ?_
            refine go_nil ?_
            first
            | (refine ge_imp (fs (i := j) (l := ys.map rA) (A := rA ⟨yk, yv, ya, yc, ykk, yl⟩) (by repeat (first | exact .head | apply Sel.tail)) (by repeat (first | exact .head | apply Sel.tail)) (by simp [hS.ly, hj])) ?_; rw [map_sameP (f := rA) hy])
            | (refine ge_imp (fs (i := j) (l := ys.map rA) (A := rA ⟨yk, yv, ya, yc, yl.length, yl⟩) (by repeat (first | exact .head | apply Sel.tail)) (by repeat (first | exact .head | apply Sel.tail)) (by simp [hS.ly, hj])) ?_; rw [map_sameP (f := rA) hy])
            first
            | (refine ge_imp (fs (i := j) (l := xs.map (oA r)) (A := oA r x) (by repeat (first | exact .head | apply Sel.tail)) (by repeat (first | exact .head | apply Sel.tail)) (by simp [hS.lx, hj])) ?_; rw [map_sameP (f := oA r) hx])
            | (refine ge_imp (fs (i := j) (l := xs.map (oA r)) (A := oA r (some (p, o))) (by repeat (first | exact .head | apply Sel.tail)) (by repeat (first | exact .head | apply Sel.tail)) (by simp [hS.lx, hj])) ?_; rw [map_sameP (f := oA r) hx])
            refine ge_imp (rmem_shut (p := w) (L := L) (t := tr) ax cx (by repeat (first | exact .head | apply Sel.tail)) (by repeat (first | exact .head | apply Sel.tail))) ?_
            refine ge_then ?_
            refine g_cond_false rfl ?_
            refine g_skip ?_
            refine ge_block ?_
            refine ge_then ?_
            refine g_region ?_
            refine gl_v rfl (o_move rfl) ?_
            refine gl_v rfl (o_addR _ (by first | exact wr_i64 (by omega) | rfl) rfl rfl) ?_
            refine gl_v rfl (o_assign rfl) ?_
            refine gl_nil ?_
            refine ge_round (i + 1, L, t, tr, xs, ys) ⟨hS, by show i + 1 ≤ 400; omega, by show i + 1 ≤ vs.length; omega, ht0, by show t ≤ 1000 + ((i + 1 : Nat) : Int); omega⟩ (by show 400 - (i + 1) < 400 - i; omega) (Keep.cons rfl (Keep.cons rfl (Keep.cons rfl (Keep.cons rfl (Keep.cons rfl (Keep.cons rfl (Keep.cons rfl (Keep.cons rfl (Keep.nil))))))))) (To.sat (by repeat (first | exact .nil | exact .done .refl | (apply To.cons; · (repeat (first | exact .head | apply Sel.tail))) | exact .done (by repeat (first | exact .refl | apply Drop.skip)))))
          ·
            have hc9' := hc9
            first | replace hc9' := of_decide_eq_true hc9' | replace hc9' := lt_f hc9' | replace hc9' := le_f hc9' | replace hc9' := dec_f hc9' | replace hc9' := nlt_t hc9' | replace hc9' := nle_t hc9' | replace hc9' := ndec_t hc9' | replace hc9' := ndec_f hc9' | replace hc9' := nn_t hc9' | replace hc9' := nn_f hc9' | skip
            refine go_skip rfl (.no rfl rfl hc9) rfl ?_
            refine go_skip rfl (.no rfl rfl hc9) rfl ?_
            refine go_skip rfl (.no rfl rfl hc9) rfl ?_
            refine go_skip rfl (.no rfl rfl hc9) rfl ?_
            refine go_skip rfl (.no rfl rfl hc9) rfl ?_
            refine go_skip rfl (.no rfl rfl hc9) rfl ?_
            refine go_skip rfl (.no rfl rfl hc9) rfl ?_
            refine go_skip rfl (.no rfl rfl hc9) rfl ?_
            refine go_skip rfl (.no rfl rfl hc9) rfl ?_
            refine go_skip rfl (.no rfl rfl hc9) rfl ?_
            refine go_skip rfl (.no rfl rfl hc9) rfl ?_
            refine go_skip rfl (.no rfl rfl hc9) rfl ?_
            refine go_v rfl .none rfl (o_pickF hc9 rfl rfl) ?_
            refine go_v rfl .none rfl (o_move rfl) ?_
            refine go_v rfl (.yes rfl rfl rfl) rfl (o_move rfl) ?_
            refine go_vs rfl (.yes rfl rfl rfl) rfl (o_move rfl) (To.sat (by repeat (first | exact .nil | exact .done .refl | (apply To.cons; · (repeat (first | exact .head | apply Sel.tail))) | exact .done (by repeat (first | exact .refl | apply Drop.skip))))) ?_
            refine go_vs rfl (.yes rfl rfl rfl) rfl (o_nil rfl) (To.sat (by repeat (first | exact .nil | exact .done .refl | (apply To.cons; · (repeat (first | exact .head | apply Sel.tail))) | exact .done (by repeat (first | exact .refl | apply Drop.skip))))) ?_
            first | refine go_vs rfl (.yes rfl rfl rfl) rfl (o_fldS rfl) (To.sat (by repeat (first | exact .nil | exact .done .refl | (apply To.cons; · (repeat (first | exact .head | apply Sel.tail))) | exact .done (by repeat (first | exact .refl | apply Drop.skip))))) ?_ | refine go_vs rfl (.yes rfl rfl rfl) rfl (o_fld rfl) (To.sat (by repeat (first | exact .nil | exact .done .refl | (apply To.cons; · (repeat (first | exact .head | apply Sel.tail))) | exact .done (by repeat (first | exact .refl | apply Drop.skip))))) ?_
            first | refine go_vs rfl (.yes rfl rfl rfl) rfl (o_load rfl rfl) (To.sat (by repeat (first | exact .nil | exact .done .refl | (apply To.cons; · (repeat (first | exact .head | apply Sel.tail))) | exact .done (by repeat (first | exact .refl | apply Drop.skip))))) ?_ | refine go_vs rfl (.yes rfl rfl rfl) rfl (o_loadS rfl rfl) (To.sat (by repeat (first | exact .nil | exact .done .refl | (apply To.cons; · (repeat (first | exact .head | apply Sel.tail))) | exact .done (by repeat (first | exact .refl | apply Drop.skip))))) ?_ | refine go_vs rfl (.yes rfl rfl rfl) rfl (o_loadC rfl) (To.sat (by repeat (first | exact .nil | exact .done .refl | (apply To.cons; · (repeat (first | exact .head | apply Sel.tail))) | exact .done (by repeat (first | exact .refl | apply Drop.skip))))) ?_
            refine go_c rfl (.yes rfl rfl rfl) rfl (o_call rfl (All_spec m L t (by rw [hS.len]; omega)) (by repeat (first | exact .nil | (apply Part.cons; · (repeat (first | exact .head | apply Sel.tail)))))) ?_
            rintro _ R ⟨_, ⟨a9, c9, rfl, rfl⟩, rfl⟩
            try simp only [List.cons_append, List.nil_append]
            refine ⟨(fun _ => (To.sat (by repeat (first | exact .nil | exact .done .refl | (apply To.cons; · (repeat (first | exact .head | apply Sel.tail))) | exact .done (by repeat (first | exact .refl | apply Drop.skip)))))), ?_⟩
            refine go_c rfl (.yes rfl rfl rfl) rfl (o_call rfl (rSame_spec (.slice a9 L.length c9) (.slice ax L.length cx) L L (by rw [hS.len]; omega) (by rw [hS.len]; omega) (own (.slice a9 L.length c9) 28 1 L.length (L.map U64)) (own (.slice ax L.length cx) 28 1 L.length (L.map U64))) (by repeat (first | exact .nil | (apply Part.cons; · (repeat (first | exact .head | apply Sel.tail)))))) ?_
            rintro _ R ⟨_, ⟨rfl, rfl⟩, rfl⟩
            try simp only [List.cons_append, List.nil_append]
            refine ⟨(fun hG => absurd hG (by decide)), ?_⟩
            refine go_v rfl (.yes rfl rfl rfl) rfl (o_is (c := false) (by simp) (o_not rfl)) ?_
            refine go_v rfl .none rfl (o_pickF rfl rfl rfl) ?_
            refine go_nil ?_
            first
            | (refine ge_imp (fs (i := j) (l := ys.map rA) (A := rA ⟨yk, yv, ya, yc, ykk, yl⟩) (by repeat (first | exact .head | apply Sel.tail)) (by repeat (first | exact .head | apply Sel.tail)) (by simp [hS.ly, hj])) ?_; rw [map_sameP (f := rA) hy])
            | (refine ge_imp (fs (i := j) (l := ys.map rA) (A := rA ⟨yk, yv, ya, yc, yl.length, yl⟩) (by repeat (first | exact .head | apply Sel.tail)) (by repeat (first | exact .head | apply Sel.tail)) (by simp [hS.ly, hj])) ?_; rw [map_sameP (f := rA) hy])
            first
            | (refine ge_imp (fs (i := j) (l := xs.map (oA r)) (A := oA r x) (by repeat (first | exact .head | apply Sel.tail)) (by repeat (first | exact .head | apply Sel.tail)) (by simp [hS.lx, hj])) ?_; rw [map_sameP (f := oA r) hx])
            | (refine ge_imp (fs (i := j) (l := xs.map (oA r)) (A := oA r (some (p, o))) (by repeat (first | exact .head | apply Sel.tail)) (by repeat (first | exact .head | apply Sel.tail)) (by simp [hS.lx, hj])) ?_; rw [map_sameP (f := oA r) hx])
            refine ge_imp (rmem_shut (p := w) (L := L) (t := tr) ax cx (by repeat (first | exact .head | apply Sel.tail)) (by repeat (first | exact .head | apply Sel.tail))) ?_
            refine ge_then ?_
            refine g_cond_false rfl ?_
            refine g_skip ?_
            refine ge_block ?_
            refine ge_then ?_
            refine g_region ?_
            refine gl_v rfl (o_move rfl) ?_
            refine gl_v rfl (o_addR _ (by first | exact wr_i64 (by omega) | rfl) rfl rfl) ?_
            refine gl_v rfl (o_assign rfl) ?_
            refine gl_nil ?_
            refine ge_round (i + 1, L, t, tr, xs, ys) ⟨hS, by show i + 1 ≤ 400; omega, by show i + 1 ≤ vs.length; omega, ht0, by show t ≤ 1000 + ((i + 1 : Nat) : Int); omega⟩ (by show 400 - (i + 1) < 400 - i; omega) (Keep.cons rfl (Keep.cons rfl (Keep.cons rfl (Keep.cons rfl (Keep.cons rfl (Keep.cons rfl (Keep.cons rfl (Keep.cons rfl (Keep.nil))))))))) (To.sat (by repeat (first | exact .nil | exact .done .refl | (apply To.cons; · (repeat (first | exact .head | apply Sel.tail))) | exact .done (by repeat (first | exact .refl | apply Drop.skip)))))
    ·
      first | replace hc2 := of_decide_eq_true hc2 | replace hc2 := lt_f hc2 | replace hc2 := le_f hc2 | replace hc2 := dec_f hc2 | replace hc2 := nlt_t hc2 | replace hc2 := nle_t hc2 | replace hc2 := ndec_t hc2 | replace hc2 := ndec_f hc2 | replace hc2 := nn_t hc2 | replace hc2 := nn_f hc2 | skip
      refine g_exit ?_
      refine ge_then_exit ?_
      refine ge_then_exit ?_
      refine ge_block_exit ?_
      refine ge_then ?_
      refine g_seq ?_
      refine g_region ?_
      refine gl_v rfl (o_assign rfl) ?_
      refine gl_nil ?_
      refine ge_then ?_
      refine g_ret ?_
      refine ret1 (.inl rfl) rfl rfl _ (⟨rfl, rfl⟩) (To.sat (by repeat (first | exact .nil | exact .done .refl | (apply To.cons; · (repeat (first | exact .head | apply Sel.tail))) | exact .done (by repeat (first | exact .refl | apply Drop.skip)))))
  ·
    have hc1' := hc1
    first | replace hc1' := of_decide_eq_true hc1' | replace hc1' := lt_f hc1' | replace hc1' := le_f hc1' | replace hc1' := dec_f hc1' | replace hc1' := nlt_t hc1' | replace hc1' := nle_t hc1' | replace hc1' := ndec_t hc1' | replace hc1' := ndec_f hc1' | replace hc1' := nn_t hc1' | replace hc1' := nn_f hc1' | skip
    simp only [putO]
    refine gl_gF rfl rfl hc1 rfl ?_
    refine gl_v rfl (o_pickF hc1 rfl rfl) ?_
    refine gl_nil ?_
    refine ge_then ?_
    refine g_cond_false rfl ?_
    refine g_exit ?_
    refine ge_then_exit ?_
    refine ge_then_exit ?_
    refine ge_block_exit ?_
    refine ge_then ?_
    refine g_seq ?_
    refine g_region ?_
    refine gl_v rfl (o_assign rfl) ?_
    refine gl_nil ?_
    refine ge_then ?_
    refine g_ret ?_
    refine ret1 (.inl rfl) rfl rfl _ (⟨rfl, rfl⟩) (To.sat (by repeat (first | exact .nil | exact .done .refl | (apply To.cons; · (repeat (first | exact .head | apply Sel.tail))) | exact .done (by repeat (first | exact .refl | apply Drop.skip)))))

end Go.Proofs.Ytnkcgfllehohbaa.L
