/-
  PostPlays. Own work, printed in part by a program of its own.
-/
import Derived.Test.YtkpgcdhepfgfaaaGreatPostL
set_option linter.unusedSimpArgs false
set_option linter.unusedVariables false
set_option linter.unusedSectionVars false
namespace Go.Proofs.YtkpgcdhepfgfaaaGreat.L
open Go.L Go.L.Ring Go.L.Post
def oVP : Option (Nat × PO) → Value
  | none => .pointer none
  | some q => ptr q.1 0
def oP (X : BX) (B : PB) : Option (Nat × PO) → Assn
  | none => emp
  | some q => postA X B q.1 q.2
def idleP : Option (Nat × PO) → Bool
  | none => true
  | some q => q.2.over
structure RY where
  kind : Int
  v : Int
  a : Option Addr
  c : Nat
  k : Nat
  l : List Int
def rV (y : RY) : List Value := [I64 y.kind, U64 y.v, .slice y.a y.k y.c]
def rA (y : RY) : Assn := own (.slice y.a y.k y.c) 39 1 y.k (y.l.map U64)
def sV (q : Int × Int × Int) : List Value := [.int .u8 q.1, .int .u8 q.2.1, U64 q.2.2]
def y0 : RY := ⟨0, 0, none, 0, 0, []⟩

def QP (B : PB) (i : Nat) : Option (Nat × PO) → RY → Prop
  | none, _ => True
  | some q, y => POI q.2 ∧ RelP B y.kind y.v q.2 y.l ∧ (1 ≤ y.kind ∧ y.kind ≤ 12) ∧ (0 ≤ y.v ∧ y.v ≤ 18446744073709551615) ∧ LI y.l ∧ y.k = y.l.length ∧ y.l.length ≤ i
theorem QP.mono {B : PB} {i j : Nat} {x : Option (Nat × PO)} {y : RY} (h : QP B i x y) (hij : i ≤ j) : QP B j x y := by
  cases x with
  | none => trivial
  | some q => exact ⟨h.1, h.2.1, h.2.2.1, h.2.2.2.1, h.2.2.2.2.1, h.2.2.2.2.2.1, Nat.le_trans h.2.2.2.2.2.2 hij⟩
structure QPS (B : PB) (i : Nat) (L : List Int) (xs : List (Option (Nat × PO))) (ys : List RY) : Prop where
  hm : 1 ≤ B.nm ∧ B.nm ≤ 4
  hn : 1 ≤ B.nn ∧ B.nn ≤ 4
  hb : B.b ≤ 2
  len : L.length = B.b + (6 + 2 * B.nm + 2 * B.nn) + 1
  li : LI L
  lx : xs.length = 6
  ly : ys.length = 6
  all : ∀ j, j < 6 → ∃ x y, xs[j]? = some x ∧ ys[j]? = some y ∧ QP B i x y
theorem QPS.mono {B : PB} {i j : Nat} {L : List Int} {xs : List (Option (Nat × PO))} {ys : List RY} (h : QPS B i L xs ys) (hij : i ≤ j) : QPS B j L xs ys :=
  ⟨h.hm, h.hn, h.hb, h.len, h.li, h.lx, h.ly, fun k hk => let ⟨x, y, h1, h2, h3⟩ := h.all k hk; ⟨x, y, h1, h2, h3.mono hij⟩⟩
theorem QPS.pi {B : PB} {i : Nat} {L : List Int} {xs : List (Option (Nat × PO))} {ys : List RY} (h : QPS B i L xs ys) : PI B L := by
  have h1 := h.hm; have h2 := h.hn; have h3 := h.hb; have h4 := h.len
  exact ⟨h1.1, by omega, h2.1, by omega, by omega, by omega⟩
theorem QPS.hB {B : PB} {i : Nat} {L : List Int} {xs : List (Option (Nat × PO))} {ys : List RY} (h : QPS B i L xs ys) : 1 ≤ B.nm ∧ B.nm ≤ 64 ∧ 1 ≤ B.nn ∧ B.nn ≤ 64 ∧ B.b ≤ 60000 := by
  have h1 := h.hm; have h2 := h.hn; have h3 := h.hb
  omega
theorem QPS.set {B : PB} {i : Nat} {L L' : List Int} {xs : List (Option (Nat × PO))} {ys : List RY} (h : QPS B i L xs ys) (hl : L'.length = L.length) (hli : LI L') {j : Nat} (hj : j < 6) (x : Option (Nat × PO)) (y : RY) (hxy : QP B (i + 1) x y) : QPS B (i + 1) L' (xs.set j x) (ys.set j y) := by
  have lx := h.lx; have ly := h.ly
  refine ⟨h.hm, h.hn, h.hb, by rw [hl, h.len], hli, by simp [lx], by simp [ly], fun k hk => ?_⟩
  obtain ⟨x', y', h1, h2, h3⟩ := h.all k hk
  by_cases e : j = k
  · subst e; exact ⟨x, y, by rw [List.getElem?_set_self (by omega)], by rw [List.getElem?_set_self (by omega)], hxy⟩
  · exact ⟨x', y', by rw [List.getElem?_set_ne e]; exact h1, by rw [List.getElem?_set_ne e]; exact h2, h3.mono (by omega)⟩
theorem QPS.start {B : PB} (h1 : 1 ≤ B.nm ∧ B.nm ≤ 4) (h2 : 1 ≤ B.nn ∧ B.nn ≤ 4) (h3 : B.b ≤ 2) : QPS B 0 (List.replicate (B.b + (6 + 2 * B.nm + 2 * B.nn) + 1) 0) (List.replicate 6 none) (List.replicate 6 y0) :=
  ⟨h1, h2, h3, by simp, LI_rep _, rfl, rfl, fun j hj => ⟨none, y0, by rw [List.getElem?_replicate, if_pos hj], by rw [List.getElem?_replicate, if_pos hj], trivial⟩⟩
theorem pplays_start {X : BX} {B : PB} {R : List Assn} : ∀ h, Sat R h → Sat (fam ((List.replicate 6 none).map (oP X B)) :: fam ((List.replicate 6 y0).map rA) :: R) h := fun h s => by
  have n0 := fun (R : List Assn) (h : Hp) (s : Sat R h) => own_nil0 (e := 39) (sz := 1) h s
  have f1 : Sat (fam ((List.replicate 6 y0).map rA) :: R) h := Sat.flat.2 (n0 _ _ (n0 _ _ (n0 _ _ (n0 _ _ (n0 _ _ (n0 _ _ s))))))
  exact Sat.flat.2 (emp0 h (emp0 h (emp0 h (emp0 h (emp0 h (emp0 h f1))))))
theorem o_neqQ {P : Program} {W0 : World} {n : Nat} {sl : Slots} {As : List Assn} {ty t t' : TypeId} {x y : Operand} {z : Option (Nat × PO)} [i : TPtr P t] (hx : opv sl x = some (oVP z)) (hy : opv sl y = some (.pointer none)) : OV P W0 n (.binOp .neq t x y t') ty sl As (.bool z.isSome) := by
  cases z with
  | none => exact o_neqnn hx hy
  | some q => exact o_neqPn hx hy
theorem o_eqlQ {P : Program} {W0 : World} {n : Nat} {sl : Slots} {As : List Assn} {ty t t' : TypeId} {x y : Operand} {z : Option (Nat × PO)} [i : TPtr P t] (hx : opv sl x = some (oVP z)) (hy : opv sl y = some (.pointer none)) : OV P W0 n (.binOp .eql t x y t') ty sl As (.bool z.isNone) := by
  cases z with
  | none => exact o_eqlnn hx hy
  | some q => exact o_eqlPn hx hy
theorem ktouched_same {v : Bool} {t : Int} (h0 : 0 ≤ t) (h1 : t ≤ 100000) : (!(v == decide ((if v then t else tup t) = t))) = false := by
  have := tup_of (t := t) (by omega)
  cases v with
  | true => simp
  | false => simp only [Bool.false_eq_true, if_false]; rw [this]; simp; omega
theorem ktouched_up {v : Bool} {t : Int} (h0 : 0 ≤ t) (h1 : t ≤ 100000) : decide (t + 1 < (if v then t else tup t)) = false := by
  have := tup_of (t := t) (by omega)
  apply decide_eq_false
  split <;> omega
theorem ktouched_in {v : Bool} {t : Int} (h0 : 0 ≤ t) (h1 : t ≤ 100000) : 0 ≤ (if v then t else tup t) ∧ (if v then t else tup t) ≤ t + 1 := by
  have := tup_of (t := t) (by omega)
  split <;> omega
theorem rmem_shut {p : Nat} {L : List Int} {t : Int} {As R1 R2 : List Assn} (a : Option Addr) (c : Nat) (s1 : Sel (cel p 61 [.slice a L.length c, I64 t]) As R1) (s2 : Sel (own (.slice a L.length c) 39 1 L.length (L.map U64)) R1 R2) : ∀ h, Sat As h → Sat (rmemA p L t :: R2) h :=
  rmem_close a c rfl rfl (fun _ s => Sat.tail (fun _ => s2.to) (s1.to s))
theorem tupN_of : ∀ k : Nat, k ≤ 1000 → tupN k 0 = k
  | 0, _ => rfl
  | k + 1, h => by rw [tupN, tupN_of k (by omega), tup_of (by omega)]; omega
theorem begin_poi {kind v : Int} (hk : 1 ≤ kind ∧ kind ≤ 12) (hv : 0 ≤ v ∧ v ≤ 18446744073709551615) : POI ⟨beginPh kind v, 0, 0⟩ := by
  intro _
  have h0 : 0 ≤ (0 : Int) ∧ (0 : Int) ≤ 18446744073709551615 := by decide
  have hc : kind = 1 ∨ kind = 2 ∨ kind = 3 ∨ kind = 4 ∨ kind = 5 ∨ kind = 6 ∨ kind = 7 ∨ kind = 8 ∨ kind = 9 ∨ kind = 10 ∨ kind = 11 ∨ kind = 12 := by omega
  rcases hc with rfl | rfl | rfl | rfl | rfl | rfl | rfl | rfl | rfl | rfl | rfl | rfl
  · exact ⟨⟨OI_ini (by decide) hv, rfl⟩, rfl⟩
  · exact ⟨⟨OI_ini (by decide) hv, rfl⟩, rfl⟩
  · exact ⟨hv, rfl⟩
  · exact ⟨(show 0 ≤ (2 : Int) ∧ (2 : Int) ≤ 18446744073709551615 by decide), rfl⟩
  · exact ⟨⟨OI_ini (by decide) h0, rfl⟩, rfl⟩
  · exact ⟨⟨OI_ini (by decide) h0, rfl⟩, rfl⟩
  · exact ⟨trivial, rfl⟩
  · exact ⟨(show 0 ≤ (1 : Int) ∧ (1 : Int) ≤ 18446744073709551615 by decide), rfl⟩
  · exact ⟨⟨OI_ini (by decide) h0, rfl⟩, rfl⟩
  · exact ⟨⟨OI_ini (by decide) h0, rfl⟩, rfl⟩
  · exact ⟨(show 0 ≤ (4 : Int) ∧ (4 : Int) ≤ 18446744073709551615 by decide), rfl⟩
  · exact ⟨trivial, rfl⟩
theorem PTouched (X : BX) (B : PB) (L : List Int) (t : Int) : FnS Tryz.prog 13 [ptr X.m 0] [envA X B L t] (fun u Bs => u = I64 t ∧ Bs = [envA X B L t]) := by
  refine fns_ex (fun x _ => ?_)
  intro W0 R w' s
  refine (Touched_spec X.m L t W0 (bxA X B :: ringA (X.r false) X.m (B.rb false) (B.rn false) :: ringA (X.r true) X.m (B.rb true) (B.rn true) :: R) w' (s.imp (To.sat (by repeat (first | exact .nil | exact .done .refl | (apply To.cons; · (repeat (first | exact .head | apply Sel.tail))) | exact .done (by repeat (first | exact .refl | apply Drop.skip))))))).mono ?_
  rintro _ _ ⟨v, Bs, e, ⟨e2, rfl⟩, s⟩
  exact ⟨v, _, e, ⟨e2, rfl⟩, s.imp fun h s => ex_close () trivial (To.sat (by repeat (first | exact .nil | exact .done .refl | (apply To.cons; · (repeat (first | exact .head | apply Sel.tail))) | exact .done (by repeat (first | exact .refl | apply Drop.skip))))) h s⟩
theorem PAll (X : BX) (B : PB) (L : List Int) (t : Int) (hL : L.length ≤ 17592186044416) : FnS Tryz.prog 19 [ptr X.m 0] [envA X B L t] (fun u Bs => ∃ a c, u = .slice a L.length c ∧ Bs = [own (.slice a L.length c) 39 1 L.length (L.map U64), envA X B L t]) := by
  refine fns_ex (fun x _ => ?_)
  intro W0 R w' s
  refine (All_spec X.m L t hL W0 (bxA X B :: ringA (X.r false) X.m (B.rb false) (B.rn false) :: ringA (X.r true) X.m (B.rb true) (B.rn true) :: R) w' (s.imp (To.sat (by repeat (first | exact .nil | exact .done .refl | (apply To.cons; · (repeat (first | exact .head | apply Sel.tail))) | exact .done (by repeat (first | exact .refl | apply Drop.skip))))))).mono ?_
  rintro _ _ ⟨v, Bs, e, ⟨a, c, e2, rfl⟩, s⟩
  exact ⟨v, _, e, ⟨a, c, e2, rfl⟩, s.imp fun h s => (Sat.swap (ex_close () trivial (To.sat (by repeat (first | exact .nil | exact .done .refl | (apply To.cons; · (repeat (first | exact .head | apply Sel.tail))) | exact .done (by repeat (first | exact .refl | apply Drop.skip))))) h s))⟩

set_option maxRecDepth 8000 in
set_option maxHeartbeats 2000000 in
theorem pplays_spec (s s2 : Nat) (hs : s ≤ 255) (hs2 : s2 ≤ 255) (a : Option Addr) (c : Nat) (vs : List (Int × Int × Int)) (hvs : ∀ q ∈ vs, (0 ≤ q.1 ∧ q.1 ≤ 255) ∧ (0 ≤ q.2.1 ∧ q.2.1 ≤ 255) ∧ 0 ≤ q.2.2 ∧ q.2.2 ≤ 18446744073709551615) (hm : vs.length ≤ 140737488351232) (A : Assn) [RdA (.slice a vs.length c) A vs.length (vs.flatMap sV)] : FnS Tryz.prog 3 [.int .u8 s, .int .u8 s2, .slice a vs.length c] [A] (fun u Bs => u = .bool true ∧ Bs = [A]) := by
 refine fn_body Tryz.func3 rfl rfl rfl ?_
 intro W0 R
 simp only [List.zipIdx_cons, List.zipIdx_nil, List.map_cons, List.map_nil, Nat.zero_add, Nat.reduceAdd, List.cons_append, List.nil_append]
 obtain ⟨b, hbd⟩ : ∃ b, b = s % 3 := ⟨_, rfl⟩
 obtain ⟨nm, hnm⟩ : ∃ n, n = 1 + s % 4 := ⟨_, rfl⟩
 obtain ⟨nn, hnn⟩ : ∃ n, n = 1 + s2 % 4 := ⟨_, rfl⟩
 have h1 : 1 ≤ nm ∧ nm ≤ 4 := by omega
 have h2 : 1 ≤ nn ∧ nn ≤ 4 := by omega
 have h3 : b ≤ 2 := by omega
 have hcnt : cnt ((b + (6 + 2 * nm + 2 * nn) + 1 : Nat) : Int) = (b + (6 + 2 * nm + 2 * nn) + 1) := by have := cnt_of ((b + (6 + 2 * nm + 2 * nn) + 1 : Nat) : Int) (by omega); omega
 have hpi : PI (⟨b, nm, nn⟩ : PB) (List.replicate (b + (6 + 2 * nm + 2 * nn) + 1) 0) := ⟨h1.1, by show nm ≤ 64; omega, h2.1, by show nn ≤ 64; omega, by simp only [List.length_replicate]; omega, by simp only [List.length_replicate]; omega⟩
 refine g_seq ?_
 refine g_region ?_
 refine gl_v rfl (o_assign rfl) ?_
 refine gl_nil ?_
 refine ge_then ?_
 refine g_seq ?_
 refine g_seq ?_
 refine g_region ?_
 refine gl_c rfl (o_call rfl (palive_spec) (by repeat (first | exact .nil | (apply Part.cons; · (repeat (first | exact .head | apply Sel.tail)))))) ?_
 rintro _ R ⟨_, ⟨rfl, rfl⟩, rfl⟩
 try simp only [List.cons_append, List.nil_append]
 refine gl_v rfl (o_not rfl) ?_
 refine gl_nil ?_
 refine ge_then ?_
 refine g_cond_false (rfl) ?_
 refine g_skip ?_
 refine ge_then ?_
 refine g_seq ?_
 refine g_region ?_
 refine gl_v rfl (o_move rfl) ?_
 refine gl_v rfl (o_convR (s : Int) (wr_i64 (by omega)) rfl) ?_
 refine gl_v rfl (o_remR (b : Int) ((tmodn s 3).trans (by rw [hbd])) rfl rfl (by decide)) ?_
 refine gl_v rfl (o_move rfl) ?_
 refine gl_v rfl (o_convR (s : Int) (wr_i64 (by omega)) rfl) ?_
 refine gl_v rfl (o_remR ((s % 4 : Nat) : Int) (tmodn s 4) rfl rfl (by decide)) ?_
 refine gl_v rfl (o_addR ((nm : Nat) : Int) (by rw [wr_i64 (by omega)]; omega) rfl rfl) ?_
 refine gl_v rfl (o_move rfl) ?_
 refine gl_v rfl (o_convR (s2 : Int) (wr_i64 (by omega)) rfl) ?_
 refine gl_v rfl (o_remR ((s2 % 4 : Nat) : Int) (tmodn s2 4) rfl rfl (by decide)) ?_
 refine gl_v rfl (o_addR ((nn : Nat) : Int) (by rw [wr_i64 (by omega)]; omega) rfl rfl) ?_
 refine gl_v rfl (o_build rfl rfl) ?_
 refine gl_n rfl (o_alloc) ?_
 rintro _ _ ⟨b7, rfl, rfl⟩
 first | refine gl_u (o_storeSA rfl rfl rfl rfl (by simp; omega) (by simp)) ?_ | refine gl_u (o_storeA rfl rfl rfl rfl rfl) ?_
 refine gl_nil ?_
 refine ge_then ?_
 refine g_seq ?_
 refine g_draw [3] [3] [(0, .stab), (1, .stab), (2, .loc), (3, .eff), (4, .loc), (5, .loc), (6, .loc)] [cel b7 25 [I64 b, I64 nm, I64 nn]] mixed (by kernel_rfl) ?_
 first | refine go_vs rfl .none rfl (o_fldS rfl) (To.sat (by repeat (first | exact .nil | exact .done .refl | (apply To.cons; · (repeat (first | exact .head | apply Sel.tail))) | exact .done (by repeat (first | exact .refl | apply Drop.skip))))) ?_ | refine go_vs rfl .none rfl (o_fld rfl) (To.sat (by repeat (first | exact .nil | exact .done .refl | (apply To.cons; · (repeat (first | exact .head | apply Sel.tail))) | exact .done (by repeat (first | exact .refl | apply Drop.skip))))) ?_
 first | refine go_vs rfl .none rfl (o_load rfl rfl) (To.sat (by repeat (first | exact .nil | exact .done .refl | (apply To.cons; · (repeat (first | exact .head | apply Sel.tail))) | exact .done (by repeat (first | exact .refl | apply Drop.skip))))) ?_ | refine go_vs rfl .none rfl (o_loadS rfl rfl) (To.sat (by repeat (first | exact .nil | exact .done .refl | (apply To.cons; · (repeat (first | exact .head | apply Sel.tail))) | exact .done (by repeat (first | exact .refl | apply Drop.skip))))) ?_ | refine go_vs rfl .none rfl (o_loadC rfl) (To.sat (by repeat (first | exact .nil | exact .done .refl | (apply To.cons; · (repeat (first | exact .head | apply Sel.tail))) | exact .done (by repeat (first | exact .refl | apply Drop.skip))))) ?_
 first | refine go_v rfl .none rfl (o_loadSA rfl rfl rfl) ?_ | refine go_v rfl .none rfl (o_loadA rfl rfl rfl) ?_
 refine go_c rfl .none rfl (o_call rfl (bsize_spec (⟨b, nm, nn⟩ : PB) (by show 1 ≤ nm ∧ nm ≤ 64 ∧ 1 ≤ nn ∧ nn ≤ 64 ∧ b ≤ 60000; omega)) (by repeat (first | exact .nil | (apply Part.cons; · (repeat (first | exact .head | apply Sel.tail)))))) ?_
 rintro _ R ⟨_, ⟨rfl, rfl⟩, rfl⟩
 try simp only [List.cons_append, List.nil_append]
 refine ⟨(fun _ => (To.sat (by repeat (first | exact .nil | exact .done .refl | (apply To.cons; · (repeat (first | exact .head | apply Sel.tail))) | exact .done (by repeat (first | exact .refl | apply Drop.skip)))))), ?_⟩
 refine go_v rfl .none rfl (o_addR ((b + (6 + 2 * nm + 2 * nn) : Nat) : Int) (by rw [wr_i64 (by omega)]; omega) rfl rfl) ?_
 refine go_v rfl .none rfl (o_addR ((b + (6 + 2 * nm + 2 * nn) + 1 : Nat) : Int) (by rw [wr_i64 (by omega)]; omega) rfl rfl) ?_
 refine go_v rfl .none rfl (o_assign rfl) ?_
 refine go_nil ?_
 refine ge_then ?_
 refine g_seq ?_
 refine g_region ?_
 refine gl_v rfl (o_move rfl) ?_
 refine gl_c rfl (o_call rfl (New_spec ((b + (6 + 2 * nm + 2 * nn) + 1) : Nat)) (by repeat (first | exact .nil | (apply Part.cons; · (repeat (first | exact .head | apply Sel.tail)))))) ?_
 rintro _ R ⟨_, ⟨m, rfl, rfl⟩, rfl⟩
 try simp only [List.cons_append, List.nil_append]
 rw [hcnt]
 refine gl_v rfl (o_assign rfl) ?_
 refine gl_nil ?_
 refine ge_then ?_
 refine g_seq ?_
 refine g_region ?_
 refine gl_v rfl (o_move rfl) ?_
 first | refine gl_v rfl (o_fldS rfl) ?_ | refine gl_v rfl (o_fld rfl) ?_
 first | refine gl_v rfl (o_load rfl rfl) ?_ | refine gl_v rfl (o_loadS rfl rfl) ?_ | refine gl_v rfl (o_loadC rfl) ?_
 first | refine gl_v rfl (o_fldS rfl) ?_ | refine gl_v rfl (o_fld rfl) ?_
 first | refine gl_v rfl (o_load rfl rfl) ?_ | refine gl_v rfl (o_loadS rfl rfl) ?_ | refine gl_v rfl (o_loadC rfl) ?_
 first | refine gl_v rfl (o_fldS rfl) ?_ | refine gl_v rfl (o_fld rfl) ?_
 first | refine gl_v rfl (o_load rfl rfl) ?_ | refine gl_v rfl (o_loadS rfl rfl) ?_ | refine gl_v rfl (o_loadC rfl) ?_
 refine gl_c rfl (o_call rfl (pMake_spec m b nm nn (List.replicate (b + (6 + 2 * nm + 2 * nn) + 1) 0) 0 hpi) (by repeat (first | exact .nil | (apply Part.cons; · (repeat (first | exact .head | apply Sel.tail)))))) ?_
 rintro _ R ⟨_, ⟨X, rfl, rfl, rfl⟩, rfl⟩
 try simp only [List.cons_append, List.nil_append]
 rw [zap_rep]
 refine gl_v rfl (o_move rfl) ?_
 refine gl_v rfl (o_extract rfl rfl) ?_
 refine gl_v rfl (o_extract rfl rfl) ?_
 refine gl_v rfl (o_assign rfl) ?_
 refine gl_v rfl (o_assign rfl) ?_
 refine gl_nil ?_
 refine ge_then ?_
 refine g_seq ?_
 refine g_seq ?_
 refine g_draw [11, 13] [11] [(0, .loc), (1, .loc), (2, .loc), (3, .loc), (4, .loc), (5, .loc), (6, .loc), (7, .loc), (8, .loc), (9, .loc), (10, .loc), (12, .stab), (11, .eff), (13, .eff), (14, .loc), (15, .loc)] [cel b7 25 [I64 b, I64 nm, I64 nn]] mixed (by kernel_rfl) ?_
 refine go_v rfl .none rfl (o_move rfl) ?_
 refine go_v rfl .none rfl (o_is (c := false) (by rfl) (o_neq rfl rfl)) ?_
 refine go_v rfl .none rfl (o_move rfl) ?_
 refine go_v rfl (.yes rfl rfl rfl) rfl (o_move rfl) ?_
 refine go_v rfl (.yes rfl rfl rfl) rfl (o_is (c := false) rfl (o_eqlPn rfl rfl)) ?_
 refine go_v rfl .none rfl (o_pickF rfl rfl rfl) ?_
 refine go_v rfl .none rfl (o_move rfl) ?_
 first | refine go_v rfl (.yes rfl rfl rfl) rfl (o_fldS rfl) ?_ | refine go_v rfl (.yes rfl rfl rfl) rfl (o_fld rfl) ?_
 first | refine go_v rfl (.yes rfl rfl rfl) rfl (o_load rfl rfl) ?_ | refine go_v rfl (.yes rfl rfl rfl) rfl (o_loadS rfl rfl) ?_ | refine go_v rfl (.yes rfl rfl rfl) rfl (o_loadC rfl) ?_
 first | refine go_v rfl (.yes rfl rfl rfl) rfl (o_fldS rfl) ?_ | refine go_v rfl (.yes rfl rfl rfl) rfl (o_fld rfl) ?_
 first | refine go_v rfl (.yes rfl rfl rfl) rfl (o_load rfl rfl) ?_ | refine go_v rfl (.yes rfl rfl rfl) rfl (o_loadS rfl rfl) ?_ | refine go_v rfl (.yes rfl rfl rfl) rfl (o_loadC rfl) ?_
 first | refine go_vs rfl (.yes rfl rfl rfl) rfl (o_loadSA rfl rfl rfl) (To.sat (by repeat (first | exact .nil | exact .done .refl | (apply To.cons; · (repeat (first | exact .head | apply Sel.tail))) | exact .done (by repeat (first | exact .refl | apply Drop.skip))))) ?_ | refine go_vs rfl (.yes rfl rfl rfl) rfl (o_loadA rfl rfl rfl) (To.sat (by repeat (first | exact .nil | exact .done .refl | (apply To.cons; · (repeat (first | exact .head | apply Sel.tail))) | exact .done (by repeat (first | exact .refl | apply Drop.skip))))) ?_
 refine go_c rfl (.yes rfl rfl rfl) rfl (o_call rfl (pSize_ok (by omega) (by omega)) (by repeat (first | exact .nil | (apply Part.cons; · (repeat (first | exact .head | apply Sel.tail)))))) ?_
 rintro _ R ⟨_, ⟨rfl, rfl⟩, rfl⟩
 try simp only [List.cons_append, List.nil_append]
 refine ⟨(fun _ => (To.sat (by repeat (first | exact .nil | exact .done .refl | (apply To.cons; · (repeat (first | exact .head | apply Sel.tail))) | exact .done (by repeat (first | exact .refl | apply Drop.skip)))))), ?_⟩
 refine go_c rfl (.yes rfl rfl rfl) rfl (o_call rfl (bsize_spec (⟨b, nm, nn⟩ : PB) (by show 1 ≤ nm ∧ nm ≤ 64 ∧ 1 ≤ nn ∧ nn ≤ 64 ∧ b ≤ 60000; omega)) (by repeat (first | exact .nil | (apply Part.cons; · (repeat (first | exact .head | apply Sel.tail)))))) ?_
 rintro _ R ⟨_, ⟨rfl, rfl⟩, rfl⟩
 try simp only [List.cons_append, List.nil_append]
 refine ⟨(fun hG => absurd hG (by decide)), ?_⟩
 refine go_v rfl (.yes rfl rfl rfl) rfl (o_is (c := false) (by simp; omega) (o_neq rfl rfl)) ?_
 refine go_v rfl .none rfl (o_pickF rfl rfl rfl) ?_
 refine go_nil ?_
 refine ge_then ?_
 refine g_cond_false rfl ?_
 refine g_skip ?_
 refine ge_then ?_
 refine g_seq ?_
 refine g_region ?_
 refine gl_v rfl (o_move rfl) ?_
 refine gl_c rfl (o_call rfl (rNew_spec ((b + (6 + 2 * nm + 2 * nn) + 1) : Nat)) (by repeat (first | exact .nil | (apply Part.cons; · (repeat (first | exact .head | apply Sel.tail)))))) ?_
 rintro _ R ⟨_, ⟨q, rfl, rfl⟩, rfl⟩
 try simp only [List.cons_append, List.nil_append]
 rw [hcnt]
 refine gl_v rfl (o_assign rfl) ?_
 refine gl_nil ?_
 refine ge_then ?_
 refine g_seq ?_
 refine g_region ?_
 refine gl_v rfl (o_move rfl) ?_
 first | refine gl_v rfl (o_loadSA rfl rfl rfl) ?_ | refine gl_v rfl (o_loadA rfl rfl rfl) ?_
 refine gl_c rfl (o_call rfl (play_spec q (b + (6 + 2 * nm + 2 * nn) + 1) (⟨b, nm, nn⟩ : PB) (by show 1 ≤ nm ∧ nm ≤ 64 ∧ 1 ≤ nn ∧ nn ≤ 64 ∧ b ≤ 60000; omega) 0 (by show b + 6 + 2 * nm + 2 * nn ≤ _; omega)) (by repeat (first | exact .nil | (apply Part.cons; · (repeat (first | exact .head | apply Sel.tail)))))) ?_
 rintro _ R ⟨_, ⟨rfl, rfl⟩, rfl⟩
 try simp only [List.cons_append, List.nil_append]
 refine gl_nil ?_
 refine ge_then ?_
 refine g_seq ?_
 refine g_region ?_
 refine gl_n rfl (o_makeS (k := 6) rfl rfl (by unfold maxLen; omega) (by omega)) ?_
 rintro _ _ ⟨a77, c77, rfl, rfl⟩
 refine gl_v rfl (o_assign rfl) ?_
 refine gl_nil ?_
 refine ge_then ?_
 refine g_seq ?_
 refine g_region ?_
 refine gl_n rfl (o_makeS (k := 6) rfl rfl (by unfold maxLen; omega) (by omega)) ?_
 rintro _ _ ⟨a78, c78, rfl, rfl⟩
 refine gl_v rfl (o_assign rfl) ?_
 refine gl_nil ?_
 refine ge_then ?_
 refine g_seq ?_
 refine g_seq ?_
 refine g_imp (pplays_start (X := X) (B := (⟨b, nm, nn⟩ : PB))) ?_
 refine g_region ?_
 refine gl_v rfl (o_assign rfl) ?_
 refine gl_nil ?_
 refine ge_then ?_
 refine g_block ?_
 refine g_loop (ι := Nat × List Int × Int × Int × List (Option (Nat × PO)) × List RY) (fun x => QPS (⟨b, nm, nn⟩ : PB) x.1 x.2.1 x.2.2.2.2.1 x.2.2.2.2.2 ∧ x.1 ≤ 300 ∧ x.1 ≤ vs.length ∧ 0 ≤ x.2.2.1 ∧ x.2.2.1 ≤ 1000 + (x.1 : Int)) (fun x => [(15, I64 x.1), (14, .slice a78 6 c78), (13, .slice a77 6 c77), (12, ptr q 0), (10, ptr X.bx 0), (9, ptr X.m 0), (7, ptr b7 0), (2, .slice a vs.length c)]) (fun x => envA X (⟨b, nm, nn⟩ : PB) x.2.1 x.2.2.1 :: cel b7 25 [I64 b, I64 nm, I64 nn] :: rmemA q x.2.1 x.2.2.2.1 :: own (.slice a77 6 c77) 42 1 6 (x.2.2.2.2.1.map oVP) :: own (.slice a78 6 c78) 52 3 6 (x.2.2.2.2.2.flatMap rV) :: fam (x.2.2.2.2.1.map (oP X (⟨b, nm, nn⟩ : PB))) :: fam (x.2.2.2.2.2.map rA) :: A :: R) (fun x => 300 - x.1) (0, List.replicate (b + (6 + 2 * nm + 2 * nn) + 1) 0, tupN (PB.sz (⟨b, nm, nn⟩ : PB)) 0, 0, List.replicate 6 none, List.replicate 6 y0) (⟨QPS.start h1 h2 h3, Nat.zero_le _, Nat.zero_le _, by show 0 ≤ tupN (PB.sz (⟨b, nm, nn⟩ : PB)) 0; rw [tupN_of _ (by simp [PB.sz]; omega)]; omega, by show tupN (PB.sz (⟨b, nm, nn⟩ : PB)) 0 ≤ 1000 + ((0 : Nat) : Int); rw [tupN_of _ (by simp [PB.sz]; omega)]; simp [PB.sz]; omega⟩) (Keep.cons rfl (Keep.cons rfl (Keep.cons rfl (Keep.cons rfl (Keep.cons rfl (Keep.cons rfl (Keep.cons rfl (Keep.cons rfl (Keep.nil))))))))) (To.sat (by repeat (first | exact .nil | exact .done .refl | (apply To.cons; · (repeat (first | exact .head | apply Sel.tail))) | exact .done (by repeat (first | exact .refl | apply Drop.skip))))) ?_
 rintro ⟨i, L, t, tr, xs, ys⟩ ⟨hS, hi, hiv, ht0, ht1⟩
 have hS : QPS (⟨b, nm, nn⟩ : PB) i L xs ys := hS
 have hi : i ≤ 300 := hi
 have hiv : i ≤ vs.length := hiv
 have ht0 : 0 ≤ t := ht0
 have ht1 : t ≤ 1000 + (i : Int) := ht1
 dsimp only
 refine g_seq ?_
 refine g_seq ?_
 refine g_region ?_
 refine gl_v rfl (o_move rfl) ?_
 refine gl_v rfl (o_move rfl) ?_
 first | refine gl_v rfl (o_len rfl) ?_ | refine gl_v rfl (o_lenL rfl) ?_
 refine gl_v rfl (o_lss rfl rfl) ?_
 refine gl_v rfl (o_move rfl) ?_
 refine gl_g rfl rfl (fun hc1 => ?_) (fun hc1 => ?_) rfl
 ·
  have hc1' := hc1
  first | replace hc1' := of_decide_eq_true hc1' | replace hc1' := lt_f hc1' | replace hc1' := le_f hc1' | replace hc1' := dec_f hc1' | replace hc1' := nlt_t hc1' | replace hc1' := nle_t hc1' | replace hc1' := ndec_t hc1' | replace hc1' := ndec_f hc1' | replace hc1' := nn_t hc1' | replace hc1' := nn_f hc1' | skip
  refine gl_v rfl (o_move rfl) ?_
  refine gl_gT rfl rfl hc1 ?_
  refine gl_v rfl (o_lss rfl rfl) ?_
  refine gl_v rfl (o_pickT hc1 rfl rfl) ?_
  refine gl_nil ?_
  refine ge_then ?_
  refine g_cond rfl (fun hc2 => ?_) (fun hc2 => ?_)
  ·
   first | replace hc2 := of_decide_eq_true hc2 | replace hc2 := lt_f hc2 | replace hc2 := le_f hc2 | replace hc2 := dec_f hc2 | replace hc2 := nlt_t hc2 | replace hc2 := nle_t hc2 | replace hc2 := ndec_t hc2 | replace hc2 := ndec_f hc2 | replace hc2 := nn_t hc2 | replace hc2 := nn_f hc2 | skip
   refine g_skip ?_
   refine ge_then ?_
   refine g_seq ?_
   refine g_block ?_
   refine g_seq ?_
   have hi1 : i < vs.length := by omega
   obtain ⟨⟨k0, t0, v0⟩, hq⟩ : ∃ q, vs[i]? = some q := ⟨_, List.getElem?_eq_getElem hi1⟩
   obtain ⟨hr1, hr2, hr3⟩ := hvs _ (List.mem_of_getElem? hq)
   dsimp only at hr1 hr2 hr3
   obtain ⟨tn, htn⟩ : ∃ tn : Nat, (tn : Int) = t0 := ⟨t0.toNat, by omega⟩
   obtain ⟨kn, hkn⟩ : ∃ kn : Nat, (kn : Int) = k0 := ⟨k0.toNat, by omega⟩
   refine g_region ?_
   refine gl_v rfl (o_move rfl) ?_
   refine gl_v rfl (o_move rfl) ?_
   refine gl_v rfl (o_idxS rfl rfl (by first | assumption | omega)) ?_
   refine gl_v rfl (o_loadSA rfl (flat_take sV 3 (fun _ => rfl) hq) rfl) ?_
   refine gl_n rfl (o_alloc) ?_
   rintro _ _ ⟨b16, rfl, rfl⟩
   first | refine gl_u (o_storeSA rfl rfl rfl rfl (by simp; omega) (by simp)) ?_ | refine gl_u (o_storeA rfl rfl rfl rfl rfl) ?_
   refine gl_nil ?_
   refine ge_then ?_
   refine g_seq ?_
   refine g_region ?_
   first | refine gl_v rfl (o_fldS rfl) ?_ | refine gl_v rfl (o_fld rfl) ?_
   first | refine gl_v rfl (o_load rfl rfl) ?_ | refine gl_v rfl (o_loadS rfl rfl) ?_ | refine gl_v rfl (o_loadC rfl) ?_
   refine gl_v rfl (o_convR (p := t0) (tn : Int) (by rw [htn]; exact wr_i64 (by omega)) rfl) ?_
   refine gl_v rfl (o_remR ((tn % 6 : Nat) : Int) (tmodn tn 6) rfl rfl (by decide)) ?_
   refine gl_v rfl (o_assign rfl) ?_
   refine gl_nil ?_
   generalize hjd : tn % 6 = j
   have hj : j < 6 := by rw [← hjd]; exact Nat.mod_lt _ (by decide)
   refine ge_then ?_
   refine g_seq ?_
   refine g_region ?_
   first | refine gl_v rfl (o_fldS rfl) ?_ | refine gl_v rfl (o_fld rfl) ?_
   first | refine gl_v rfl (o_load rfl rfl) ?_ | refine gl_v rfl (o_loadS rfl rfl) ?_ | refine gl_v rfl (o_loadC rfl) ?_
   refine gl_v rfl (o_convR (p := k0) (kn : Int) (by rw [hkn]; exact wr_i64 (by omega)) rfl) ?_
   refine gl_v rfl (o_remR ((kn % 14 : Nat) : Int) (tmodn kn 14) rfl rfl (by decide)) ?_
   refine gl_v rfl (o_assign rfl) ?_
   refine gl_nil ?_
   generalize hkd : kn % 14 = kd
   refine ge_then ?_
   refine g_cut (fun act wo => ∃ (x : Option (Nat × PO)) (y : RY), xs[j]? = some x ∧ ys[j]? = some y ∧ QP (⟨b, nm, nn⟩ : PB) i x y ∧ HasSl Tryz.f3.ntmps [(19, .bool (idleP x)), (18, I64 kd), (17, I64 j), (16, ptr b16 0), (15, I64 i), (14, .slice a78 6 c78), (13, .slice a77 6 c77), (12, ptr q 0), (10, ptr X.bx 0), (9, ptr X.m 0), (7, ptr b7 0), (2, .slice a vs.length c)] act ∧ St W0 (cel b16 41 [.int .u8 k0, .int .u8 t0, U64 v0] :: envA X (⟨b, nm, nn⟩ : PB) L t :: cel b7 25 [I64 b, I64 nm, I64 nn] :: rmemA q L tr :: own (.slice a77 6 c77) 42 1 6 (xs.map oVP) :: own (.slice a78 6 c78) 52 3 6 (ys.flatMap rV) :: fam (xs.map (oP X (⟨b, nm, nn⟩ : PB))) :: fam (ys.map rA) :: A :: R) wo) ?_ ?_
   ·
    obtain ⟨x, y, hx, hy, hxy⟩ := hS.all j hj
    have hxv : (xs.map oVP)[j * 1]? = some (oVP x) := by rw [Nat.mul_one]; exact map_at' hx
    refine g_region ?_
    refine gl_v rfl (o_move rfl) ?_
    refine gl_v rfl (o_move rfl) ?_
    refine gl_v rfl (o_idxS rfl rfl (by first | assumption | omega)) ?_
    refine gl_v rfl (o_loadS rfl hxv) ?_
    refine gl_v rfl (o_eqlQ rfl rfl) ?_
    refine gl_v rfl (o_move rfl) ?_
    refine gl_g rfl rfl (fun hc3 => ?_) (fun hc3 => ?_) rfl
    ·
     have hc3' := hc3
     first | replace hc3' := of_decide_eq_true hc3' | replace hc3' := lt_f hc3' | replace hc3' := le_f hc3' | replace hc3' := dec_f hc3' | replace hc3' := nlt_t hc3' | replace hc3' := nle_t hc3' | replace hc3' := ndec_t hc3' | replace hc3' := ndec_f hc3' | replace hc3' := nn_t hc3' | replace hc3' := nn_f hc3' | skip
     obtain ⟨⟨p, o⟩, rfl⟩ : ∃ q, x = some q := by cases x with | none => simp at * | some q => exact ⟨q, rfl⟩
     refine gl_v rfl (o_move rfl) ?_
     refine gl_gT rfl rfl hc3 ?_
     refine gl_v rfl (o_move rfl) ?_
     refine gl_gT rfl rfl hc3 ?_
     refine gl_v rfl (o_idxS rfl rfl (by first | assumption | omega)) ?_
     refine gl_gT rfl rfl hc3 ?_
     refine gl_v rfl (o_loadS rfl hxv) ?_
     refine gl_gT rfl rfl hc3 ?_
     refine gl_v rfl (o_nil rfl) ?_
     refine gl_gT rfl rfl hc3 ?_
     first | refine gl_v rfl (o_fldS rfl) ?_ | refine gl_v rfl (o_fld rfl) ?_
     refine gl_gT rfl rfl hc3 ?_
     refine gl_fo (l := xs.map (oP X (⟨b, nm, nn⟩ : PB))) (i := j) (A := postA X (⟨b, nm, nn⟩ : PB) p o) (by repeat (first | exact .head | apply Sel.tail)) (map_at' (f := oP X (⟨b, nm, nn⟩ : PB)) hx) ?_
     refine gl_c rfl (o_call rfl (Over_post X (⟨b, nm, nn⟩ : PB) p o) (by repeat (first | exact .nil | (apply Part.cons; · (repeat (first | exact .head | apply Sel.tail)))))) ?_
     rintro _ R ⟨_, ⟨rfl, rfl⟩, rfl⟩
     try simp only [List.cons_append, List.nil_append]
     refine gl_imp (fs (l := xs.map (oP X (⟨b, nm, nn⟩ : PB))) (i := j) (A := oP X (⟨b, nm, nn⟩ : PB) (some (p, o))) (by repeat (first | exact .head | apply Sel.tail)) (by repeat (first | exact .head | apply Sel.tail)) (by simp [hS.lx, hj])) ?_
     rw [map_sameP (f := oP X (⟨b, nm, nn⟩ : PB)) hx]
     refine gl_v rfl (o_pickF hc3 rfl rfl) ?_
     refine gl_v rfl (o_assign rfl) ?_
     refine gl_nil ?_
     first
     | (obtain rfl : x = none := by cases x with | none => rfl | some q => simp at *)
     | skip
     exact fun act wo hsl st => ⟨some (p, o), y, hx, hy, hxy, hsl.keep (Keep.cons rfl (Keep.cons rfl (Keep.cons rfl (Keep.cons rfl (Keep.cons rfl (Keep.cons rfl (Keep.cons rfl (Keep.cons rfl (Keep.cons rfl (Keep.cons rfl (Keep.cons rfl (Keep.cons rfl (Keep.nil))))))))))))), st.imp (To.sat (by repeat (first | exact .nil | exact .done .refl | (apply To.cons; · (repeat (first | exact .head | apply Sel.tail))) | exact .done (by repeat (first | exact .refl | apply Drop.skip)))))⟩
    ·
     have hc3' := hc3
     first | replace hc3' := of_decide_eq_true hc3' | replace hc3' := lt_f hc3' | replace hc3' := le_f hc3' | replace hc3' := dec_f hc3' | replace hc3' := nlt_t hc3' | replace hc3' := nle_t hc3' | replace hc3' := ndec_t hc3' | replace hc3' := ndec_f hc3' | replace hc3' := nn_t hc3' | replace hc3' := nn_f hc3' | skip
     simp only [putO]
     refine gl_gF rfl rfl hc3 rfl ?_
     refine gl_gF rfl rfl hc3 rfl ?_
     refine gl_gF rfl rfl hc3 rfl ?_
     refine gl_gF rfl rfl hc3 rfl ?_
     refine gl_gF rfl rfl hc3 rfl ?_
     refine gl_gF rfl rfl hc3 rfl ?_
     refine gl_v rfl (o_pickT hc3 rfl rfl) ?_
     refine gl_v rfl (o_assign rfl) ?_
     refine gl_nil ?_
     first
     | (obtain rfl : x = none := by cases x with | none => rfl | some q => simp at *)
     | skip
     exact fun act wo hsl st => ⟨none, y, hx, hy, hxy, hsl.keep (Keep.cons rfl (Keep.cons rfl (Keep.cons rfl (Keep.cons rfl (Keep.cons rfl (Keep.cons rfl (Keep.cons rfl (Keep.cons rfl (Keep.cons rfl (Keep.cons rfl (Keep.cons rfl (Keep.cons rfl (Keep.nil))))))))))))), st.imp (To.sat (by repeat (first | exact .nil | exact .done .refl | (apply To.cons; · (repeat (first | exact .head | apply Sel.tail))) | exact .done (by repeat (first | exact .refl | apply Drop.skip)))))⟩
   ·
    rintro act wo ⟨x, y, hx, hy, hxy, hsl, st⟩
    refine g_of ?_ hsl st
    clear hsl st act wo
    refine g_cut (fun act wo => ∃ (L : List Int) (t tr : Int) (xs : List (Option (Nat × PO))) (ys : List RY), QPS (⟨b, nm, nn⟩ : PB) (i + 1) L xs ys ∧ 0 ≤ t ∧ t ≤ 1000 + (i : Int) + 1 ∧ HasSl Tryz.f3.ntmps [(17, I64 j), (15, I64 i), (14, .slice a78 6 c78), (13, .slice a77 6 c77), (12, ptr q 0), (10, ptr X.bx 0), (9, ptr X.m 0), (7, ptr b7 0), (2, .slice a vs.length c)] act ∧ St W0 (envA X (⟨b, nm, nn⟩ : PB) L t :: cel b7 25 [I64 b, I64 nm, I64 nn] :: rmemA q L tr :: own (.slice a77 6 c77) 42 1 6 (xs.map oVP) :: own (.slice a78 6 c78) 52 3 6 (ys.flatMap rV) :: fam (xs.map (oP X (⟨b, nm, nn⟩ : PB))) :: fam (ys.map rA) :: A :: R) wo) ?_ ?_
    ·
     refine g_seq ?_
     refine g_region ?_
     refine gl_v rfl (o_move rfl) ?_
     refine gl_v rfl (o_geq rfl rfl) ?_
     refine gl_v rfl (o_move rfl) ?_
     refine gl_g rfl rfl (fun hc4 => ?_) (fun hc4 => ?_) rfl
     ·
      have hc4' := hc4
      first | replace hc4' := of_decide_eq_true hc4' | replace hc4' := lt_f hc4' | replace hc4' := le_f hc4' | replace hc4' := dec_f hc4' | replace hc4' := nlt_t hc4' | replace hc4' := nle_t hc4' | replace hc4' := ndec_t hc4' | replace hc4' := ndec_f hc4' | replace hc4' := nn_t hc4' | replace hc4' := nn_f hc4' | skip
      refine gl_v rfl (o_move rfl) ?_
      refine gl_gT rfl rfl hc4 ?_
      refine gl_v rfl (o_leq rfl rfl) ?_
      refine gl_v rfl (o_pickT hc4 rfl rfl) ?_
      refine gl_nil ?_
      refine ge_then ?_
      refine g_cond rfl (fun hc5 => ?_) (fun hc5 => ?_)
      ·
       first | replace hc5 := of_decide_eq_true hc5 | replace hc5 := lt_f hc5 | replace hc5 := le_f hc5 | replace hc5 := dec_f hc5 | replace hc5 := nlt_t hc5 | replace hc5 := nle_t hc5 | replace hc5 := ndec_t hc5 | replace hc5 := ndec_f hc5 | replace hc5 := nn_t hc5 | replace hc5 := nn_f hc5 | skip
       refine g_seq ?_
       refine g_seq ?_
       refine g_region ?_
       refine gl_v rfl (o_move rfl) ?_
       refine gl_v rfl (o_not rfl) ?_
       refine gl_nil ?_
       refine ge_then ?_
       refine g_cond rfl (fun hc6 => ?_) (fun hc6 => ?_)
       ·
        first | replace hc6 := of_decide_eq_true hc6 | replace hc6 := lt_f hc6 | replace hc6 := le_f hc6 | replace hc6 := dec_f hc6 | replace hc6 := nlt_t hc6 | replace hc6 := nle_t hc6 | replace hc6 := ndec_t hc6 | replace hc6 := ndec_f hc6 | replace hc6 := nn_t hc6 | replace hc6 := nn_f hc6 | skip
        refine g_exit ?_
        refine ge_then_exit ?_
        refine ge_then_exit ?_
        refine ge_block_exit ?_
        refine ge_then ?_
        refine g_region ?_
        refine gl_v rfl (o_move rfl) ?_
        refine gl_v rfl (o_addR _ (by first | exact wr_i64 (by omega) | rfl) rfl rfl) ?_
        refine gl_v rfl (o_assign rfl) ?_
        refine gl_nil ?_
        refine ge_round (i + 1, L, t, tr, xs, ys) ⟨hS.mono (by omega), by show i + 1 ≤ 300; omega, by show i + 1 ≤ vs.length; omega, ht0, by show t ≤ 1000 + ((i + 1 : Nat) : Int); omega⟩ (by show 300 - (i + 1) < 300 - i; omega) (Keep.cons rfl (Keep.cons rfl (Keep.cons rfl (Keep.cons rfl (Keep.cons rfl (Keep.cons rfl (Keep.cons rfl (Keep.cons rfl (Keep.nil))))))))) (To.sat (by repeat (first | exact .nil | exact .done .refl | (apply To.cons; · (repeat (first | exact .head | apply Sel.tail))) | exact .done (by repeat (first | exact .refl | apply Drop.skip)))))
       ·
        first | replace hc6 := of_decide_eq_true hc6 | replace hc6 := lt_f hc6 | replace hc6 := le_f hc6 | replace hc6 := dec_f hc6 | replace hc6 := nlt_t hc6 | replace hc6 := nle_t hc6 | replace hc6 := ndec_t hc6 | replace hc6 := ndec_f hc6 | replace hc6 := nn_t hc6 | replace hc6 := nn_f hc6 | skip
        refine g_skip ?_
        refine ge_then ?_
        refine g_seq ?_
        refine g_region ?_
        first | refine gl_v rfl (o_fldS rfl) ?_ | refine gl_v rfl (o_fld rfl) ?_
        first | refine gl_v rfl (o_load rfl rfl) ?_ | refine gl_v rfl (o_loadS rfl rfl) ?_ | refine gl_v rfl (o_loadC rfl) ?_
        refine gl_v rfl (o_assign rfl) ?_
        refine gl_nil ?_
        refine ge_then ?_
        refine g_cut (fun act wo => ∃ (vv : Int), (0 ≤ vv ∧ vv ≤ 18446744073709551615) ∧ HasSl Tryz.f3.ntmps [(20, U64 vv), (19, .bool (idleP x)), (18, I64 kd), (17, I64 j), (16, ptr b16 0), (15, I64 i), (14, .slice a78 6 c78), (13, .slice a77 6 c77), (12, ptr q 0), (10, ptr X.bx 0), (9, ptr X.m 0), (7, ptr b7 0), (2, .slice a vs.length c)] act ∧ St W0 (cel b16 41 [.int .u8 k0, .int .u8 t0, U64 v0] :: envA X (⟨b, nm, nn⟩ : PB) L t :: cel b7 25 [I64 b, I64 nm, I64 nn] :: rmemA q L tr :: own (.slice a77 6 c77) 42 1 6 (xs.map oVP) :: own (.slice a78 6 c78) 52 3 6 (ys.flatMap rV) :: fam (xs.map (oP X (⟨b, nm, nn⟩ : PB))) :: fam (ys.map rA) :: A :: R) wo) ?_ ?_
        ·
         refine g_seq ?_
         refine g_region ?_
         refine gl_v rfl (o_move rfl) ?_
         refine gl_v rfl (o_eql rfl rfl) ?_
         refine gl_nil ?_
         refine ge_then ?_
         refine g_cond rfl (fun hc7 => ?_) (fun hc7 => ?_)
         ·
          first | replace hc7 := of_decide_eq_true hc7 | replace hc7 := lt_f hc7 | replace hc7 := le_f hc7 | replace hc7 := dec_f hc7 | replace hc7 := nlt_t hc7 | replace hc7 := nle_t hc7 | replace hc7 := ndec_t hc7 | replace hc7 := ndec_f hc7 | replace hc7 := nn_t hc7 | replace hc7 := nn_f hc7 | skip
          have hk7 : kd = 7 := by omega
          refine g_region ?_
          first | refine gl_v rfl (o_fldS rfl) ?_ | refine gl_v rfl (o_fld rfl) ?_
          first | refine gl_v rfl (o_load rfl rfl) ?_ | refine gl_v rfl (o_loadS rfl rfl) ?_ | refine gl_v rfl (o_loadC rfl) ?_
          refine gl_v rfl (o_remR (v0 % 2) (Int.tmod_eq_emod_of_nonneg hr3.1) rfl rfl (by decide)) ?_
          refine gl_v rfl (o_assign rfl) ?_
          refine gl_nil ?_
          exact fun act wo hsl st => ⟨v0 % 2, by omega, hsl.keep (Keep.cons rfl (Keep.cons rfl (Keep.cons rfl (Keep.cons rfl (Keep.cons rfl (Keep.cons rfl (Keep.cons rfl (Keep.cons rfl (Keep.cons rfl (Keep.cons rfl (Keep.cons rfl (Keep.cons rfl (Keep.cons rfl (Keep.nil)))))))))))))), st.imp (To.sat (by repeat (first | exact .nil | exact .done .refl | (apply To.cons; · (repeat (first | exact .head | apply Sel.tail))) | exact .done (by repeat (first | exact .refl | apply Drop.skip)))))⟩
         ·
          first | replace hc7 := of_decide_eq_true hc7 | replace hc7 := lt_f hc7 | replace hc7 := le_f hc7 | replace hc7 := dec_f hc7 | replace hc7 := nlt_t hc7 | replace hc7 := nle_t hc7 | replace hc7 := ndec_t hc7 | replace hc7 := ndec_f hc7 | replace hc7 := nn_t hc7 | replace hc7 := nn_f hc7 | skip
          have hk7 : ¬ kd = 7 := by omega
          refine g_skip ?_
          exact fun act wo hsl st => ⟨v0, hr3, hsl.keep (Keep.cons rfl (Keep.cons rfl (Keep.cons rfl (Keep.cons rfl (Keep.cons rfl (Keep.cons rfl (Keep.cons rfl (Keep.cons rfl (Keep.cons rfl (Keep.cons rfl (Keep.cons rfl (Keep.cons rfl (Keep.cons rfl (Keep.nil)))))))))))))), st.imp (To.sat (by repeat (first | exact .nil | exact .done .refl | (apply To.cons; · (repeat (first | exact .head | apply Sel.tail))) | exact .done (by repeat (first | exact .refl | apply Drop.skip)))))⟩
        ·
         rintro act wo ⟨vv, hvv, hsl, st⟩
         refine g_of ?_ hsl st
         clear hsl st act wo
         refine g_seq ?_
         refine g_fo (l := xs.map (oP X (⟨b, nm, nn⟩ : PB))) (i := j) (A := oP X (⟨b, nm, nn⟩ : PB) x) (by repeat (first | exact .head | apply Sel.tail)) (map_at' (f := oP X (⟨b, nm, nn⟩ : PB)) hx) ?_
         refine g_fo (l := ys.map rA) (i := j) (A := rA y) (by repeat (first | exact .head | apply Sel.tail)) (map_at' (f := rA) hy) ?_
         have hxv : (xs.map oVP)[j * 1]? = some (oVP x) := by rw [Nat.mul_one]; exact map_at' hx
         refine g_region ?_
         refine gl_v rfl (o_move rfl) ?_
         refine gl_v rfl (o_move rfl) ?_
         refine gl_v rfl (o_move rfl) ?_
         refine gl_v rfl (o_move rfl) ?_
         refine gl_v rfl (o_move rfl) ?_
         refine gl_c rfl (o_call rfl (pbegun_spec X (⟨b, nm, nn⟩ : PB) (by show b ≤ 65536; omega) L t kd vv (by omega)) (by repeat (first | exact .nil | (apply Part.cons; · (repeat (first | exact .head | apply Sel.tail)))))) ?_
         rintro _ R ⟨_, ⟨p2, rfl, rfl⟩, rfl⟩
         try simp only [List.cons_append, List.nil_append]
         refine gl_v rfl (o_idxS rfl rfl (by first | assumption | omega)) ?_
         refine gl_u (o_storeS rfl rfl rfl (by simp [hS.lx]; omega)) ?_
         rw [Nat.mul_one]
         refine gl_nil ?_
         refine ge_then ?_
         refine g_seq ?_
         refine g_region ?_
         refine gl_v rfl (o_move rfl) ?_
         refine gl_v rfl (o_move rfl) ?_
         refine gl_v rfl (o_move rfl) ?_
         refine gl_v rfl (o_move rfl) ?_
         refine gl_v rfl (o_build rfl rfl) ?_
         refine gl_v rfl (o_idxS rfl rfl (by first | assumption | omega)) ?_
         refine gl_u (o_storeSA (vs := rV ⟨kd, vv, none, 0, 0, []⟩) rfl rfl rfl rfl (by rw [flat_length rV 3 (fun _ => rfl), hS.ly]; show j * 3 + 3 ≤ 18; omega) (show 0 < 3 by decide)) ?_
         rw [splice_flat rV 3 (fun _ => rfl) ⟨kd, vv, none, 0, 0, []⟩ ys j (by rw [hS.ly]; exact hj)]
         refine gl_nil ?_
         refine ge_then ?_
         refine g_seq ?_
         refine g_region ?_
         refine gl_v rfl (o_move rfl) ?_
         refine gl_v rfl (o_move rfl) ?_
         refine gl_v rfl (o_idxS rfl rfl (by first | assumption | omega)) ?_
         refine gl_v rfl (o_loadS rfl (by rw [Nat.mul_one]; simp [hS.lx, hj]; rfl)) ?_
         refine gl_v rfl (o_is (c := false) rfl (o_eqlPn rfl rfl)) ?_
         refine gl_nil ?_
         refine ge_imp (own_nil0 (e := 39) (sz := 1)) ?_
         refine ge_imp (fs (i := j) (l := ys.map rA) (A := rA ⟨kd, vv, none, 0, 0, []⟩) (by repeat (first | exact .head | apply Sel.tail)) (by repeat (first | exact .head | apply Sel.tail)) (by simp [hS.ly, hj])) ?_
         refine ge_imp (fs (i := j) (l := xs.map (oP X (⟨b, nm, nn⟩ : PB))) (A := oP X (⟨b, nm, nn⟩ : PB) (some (p2, ⟨beginPh kd vv, 0, 0⟩))) (by repeat (first | exact .head | apply Sel.tail)) (by repeat (first | exact .head | apply Sel.tail)) (by simp [hS.lx, hj])) ?_
         have hS' := hS.set (L' := L) rfl hS.li hj (some (p2, ⟨beginPh kd vv, 0, 0⟩)) ⟨kd, vv, none, 0, 0, []⟩ ⟨begin_poi (by omega) hvv, RelP.start (⟨b, nm, nn⟩ : PB) kd vv (by omega), by show 1 ≤ (kd : Int) ∧ (kd : Int) ≤ 12; omega, hvv, fun x hx => (by cases hx), rfl, Nat.zero_le _⟩
         refine ge_then ?_
         refine g_cond_false rfl ?_
         refine g_skip ?_
         exact fun act wo hsl st => ⟨L, t, tr, _, _, hS', ht0, by omega, hsl.keep (Keep.cons rfl (Keep.cons rfl (Keep.cons rfl (Keep.cons rfl (Keep.cons rfl (Keep.cons rfl (Keep.cons rfl (Keep.cons rfl (Keep.cons rfl (Keep.nil)))))))))), st.imp (by simp only [List.map_set]; exact (To.sat (by repeat (first | exact .nil | exact .done .refl | (apply To.cons; · (repeat (first | exact .head | apply Sel.tail))) | exact .done (by repeat (first | exact .refl | apply Drop.skip))))))⟩
      ·
       first | replace hc5 := of_decide_eq_true hc5 | replace hc5 := lt_f hc5 | replace hc5 := le_f hc5 | replace hc5 := dec_f hc5 | replace hc5 := nlt_t hc5 | replace hc5 := nle_t hc5 | replace hc5 := ndec_t hc5 | replace hc5 := ndec_f hc5 | replace hc5 := nn_t hc5 | replace hc5 := nn_f hc5 | skip
       refine g_seq ?_
       have hxv : (xs.map oVP)[j * 1]? = some (oVP x) := by rw [Nat.mul_one]; exact map_at' hx
       refine g_region ?_
       refine gl_v rfl (o_move rfl) ?_
       refine gl_v rfl (o_move rfl) ?_
       refine gl_v rfl (o_idxS rfl rfl (by first | assumption | omega)) ?_
       refine gl_v rfl (o_loadS rfl hxv) ?_
       refine gl_v rfl (o_neqQ rfl rfl) ?_
       refine gl_nil ?_
       refine ge_then ?_
       refine g_cond rfl (fun hc8 => ?_) (fun hc8 => ?_)
       ·
        first | replace hc8 := of_decide_eq_true hc8 | replace hc8 := lt_f hc8 | replace hc8 := le_f hc8 | replace hc8 := dec_f hc8 | replace hc8 := nlt_t hc8 | replace hc8 := nle_t hc8 | replace hc8 := ndec_t hc8 | replace hc8 := ndec_f hc8 | replace hc8 := nn_t hc8 | replace hc8 := nn_f hc8 | skip
        obtain ⟨⟨p, o⟩, rfl⟩ : ∃ q, x = some q := by cases x with | none => cases hc8 | some q => exact ⟨q, rfl⟩
        obtain ⟨yk, yv, ya, yc, ykk, yl⟩ := y
        obtain rfl : ykk = yl.length := hxy.2.2.2.2.2.1
        refine g_seq ?_
        refine g_region ?_
        refine gl_v rfl (o_move rfl) ?_
        refine gl_c rfl (o_call rfl (PTouched X (⟨b, nm, nn⟩ : PB) L t) (by repeat (first | exact .nil | (apply Part.cons; · (repeat (first | exact .head | apply Sel.tail)))))) ?_
        rintro _ R ⟨_, ⟨rfl, rfl⟩, rfl⟩
        try simp only [List.cons_append, List.nil_append]
        refine gl_v rfl (o_assign rfl) ?_
        refine gl_nil ?_
        refine ge_then ?_
        refine g_seq ?_
        refine g_fo (l := xs.map (oP X (⟨b, nm, nn⟩ : PB))) (i := j) (A := postA X (⟨b, nm, nn⟩ : PB) p o) (by repeat (first | exact .head | apply Sel.tail)) (map_at' (f := oP X (⟨b, nm, nn⟩ : PB)) hx) ?_
        refine g_region ?_
        refine gl_v rfl (o_move rfl) ?_
        refine gl_v rfl (o_move rfl) ?_
        refine gl_v rfl (o_idxS rfl rfl (by first | assumption | omega)) ?_
        refine gl_v rfl (o_loadS rfl hxv) ?_
        refine gl_v rfl (o_nil rfl) ?_
        first | refine gl_v rfl (o_fldS rfl) ?_ | refine gl_v rfl (o_fld rfl) ?_
        refine gl_c rfl (o_call rfl (pstep_spec X (⟨b, nm, nn⟩ : PB) p L t o hS.pi hxy.1) (by repeat (first | exact .nil | (apply Part.cons; · (repeat (first | exact .head | apply Sel.tail)))))) ?_
        rintro _ R ⟨_, ⟨rfl, rfl⟩, rfl⟩
        try simp only [List.cons_append, List.nil_append]
        refine gl_v rfl (o_assign rfl) ?_
        refine gl_nil ?_
        refine ge_then ?_
        refine g_seq ?_
        refine g_seq ?_
        refine g_region ?_
        refine gl_v rfl (o_move rfl) ?_
        refine gl_v rfl (o_move rfl) ?_
        refine gl_c rfl (o_call rfl (PTouched X (⟨b, nm, nn⟩ : PB) (goPL (⟨b, nm, nn⟩ : PB) L o) (if o.over then t else tup t)) (by repeat (first | exact .nil | (apply Part.cons; · (repeat (first | exact .head | apply Sel.tail)))))) ?_
        rintro _ R ⟨_, ⟨rfl, rfl⟩, rfl⟩
        try simp only [List.cons_append, List.nil_append]
        refine gl_v rfl (o_move rfl) ?_
        refine gl_v rfl (o_eql rfl rfl) ?_
        refine gl_v rfl (o_is (c := false) (ktouched_same ht0 (by omega)) (o_neqb rfl rfl)) ?_
        refine gl_v rfl (o_move rfl) ?_
        refine gl_gT rfl rfl rfl ?_
        refine gl_v rfl (o_move rfl) ?_
        refine gl_gT rfl rfl rfl ?_
        refine gl_c rfl (o_call rfl (PTouched X (⟨b, nm, nn⟩ : PB) (goPL (⟨b, nm, nn⟩ : PB) L o) (if o.over then t else tup t)) (by repeat (first | exact .nil | (apply Part.cons; · (repeat (first | exact .head | apply Sel.tail)))))) ?_
        rintro _ R ⟨_, ⟨rfl, rfl⟩, rfl⟩
        try simp only [List.cons_append, List.nil_append]
        refine gl_gT rfl rfl rfl ?_
        refine gl_v rfl (o_move rfl) ?_
        refine gl_gT rfl rfl rfl ?_
        refine gl_v rfl (o_addR (t + 1) (wr_i64 (by omega)) rfl rfl) ?_
        refine gl_gT rfl rfl rfl ?_
        refine gl_v rfl (o_is (c := false) (ktouched_up ht0 (by omega)) (o_gtr rfl rfl)) ?_
        refine gl_v rfl (o_pickF rfl rfl rfl) ?_
        refine gl_v rfl (o_move rfl) ?_
        refine gl_gT rfl rfl rfl ?_
        refine gl_v rfl (o_move rfl) ?_
        refine gl_gT rfl rfl rfl ?_
        refine gl_v rfl (o_move rfl) ?_
        refine gl_gT rfl rfl rfl ?_
        refine gl_v rfl (o_move rfl) ?_
        refine gl_gT rfl rfl rfl ?_
        refine gl_v rfl (o_idxS rfl rfl (by first | assumption | omega)) ?_
        refine gl_gT rfl rfl rfl ?_
        refine gl_v rfl (o_loadS rfl hxv) ?_
        refine gl_gT rfl rfl rfl ?_
        refine gl_v rfl (o_nil rfl) ?_
        refine gl_gT rfl rfl rfl ?_
        first | refine gl_v rfl (o_fldS rfl) ?_ | refine gl_v rfl (o_fld rfl) ?_
        refine gl_gT rfl rfl rfl ?_
        refine gl_c rfl (o_call rfl (Over_post X (⟨b, nm, nn⟩ : PB) p (goPO (⟨b, nm, nn⟩ : PB) L o)) (by repeat (first | exact .nil | (apply Part.cons; · (repeat (first | exact .head | apply Sel.tail)))))) ?_
        rintro _ R ⟨_, ⟨rfl, rfl⟩, rfl⟩
        try simp only [List.cons_append, List.nil_append]
        refine gl_gT rfl rfl rfl ?_
        refine gl_v rfl (o_is (c := false) (by simp) (o_neqb rfl rfl)) ?_
        refine gl_v rfl (o_pickF rfl rfl rfl) ?_
        refine gl_nil ?_
        refine ge_then ?_
        refine g_cond_false rfl ?_
        refine g_skip ?_
        refine ge_then ?_
        refine g_fo (l := ys.map rA) (i := j) (A := (own (.slice ya yl.length yc) 39 1 yl.length (yl.map U64))) (by repeat (first | exact .head | apply Sel.tail)) (map_at' (f := rA) hy) ?_
        refine g_fact (fun _ s => own_leS (a := ya) (c := yc) (n := yl.length) (e := 39) (xs := yl.map U64) (by repeat (first | exact .head | apply Sel.tail)) s) ?_
        intro hyc
        refine g_draw [8, 10] [8] [(0, .stab), (1, .stab), (2, .loc), (3, .loc), (4, .loc), (5, .loc), (6, .loc), (7, .loc), (8, .eff), (9, .loc), (10, .eff)] [own (.slice a78 6 c78) 52 3 6 (ys.flatMap rV), cel b7 25 [I64 b, I64 nm, I64 nn]] mixed (by kernel_rfl) ?_
        refine go_vs rfl .none rfl (o_move rfl) (To.sat (by repeat (first | exact .nil | exact .done .refl | (apply To.cons; · (repeat (first | exact .head | apply Sel.tail))) | exact .done (by repeat (first | exact .refl | apply Drop.skip))))) ?_
        refine go_vs rfl .none rfl (o_move rfl) (To.sat (by repeat (first | exact .nil | exact .done .refl | (apply To.cons; · (repeat (first | exact .head | apply Sel.tail))) | exact .done (by repeat (first | exact .refl | apply Drop.skip))))) ?_
        refine go_v rfl .none rfl (o_move rfl) ?_
        first | refine go_v rfl .none rfl (o_loadSA rfl rfl rfl) ?_ | refine go_v rfl .none rfl (o_loadA rfl rfl rfl) ?_
        refine go_v rfl .none rfl (o_move rfl) ?_
        refine go_v rfl .none rfl (o_move rfl) ?_
        refine go_v rfl .none rfl (o_idxS rfl rfl (by first | assumption | omega)) ?_
        refine go_v rfl .none rfl (o_loadSA rfl (flat_take rV 3 (fun _ => rfl) hy) rfl) ?_
        refine go_c rfl .none rfl (o_call rfl (rstepP_spec q (⟨b, nm, nn⟩ : PB) hS.hB yk yv hxy.2.2.1 hxy.2.2.2.1 ya yc yl hxy.2.2.2.2.1 (by have := hxy.2.2.2.2.2.2; simp only at this; omega) hyc L tr hS.pi hS.li o hxy.1 hxy.2.1) (by repeat (first | exact .nil | (apply Part.cons; · (repeat (first | exact .head | apply Sel.tail)))))) ?_
        rintro _ R ⟨_, ⟨a', c', l', tr', rfl, hR', hl', hln', rfl⟩, rfl⟩
        try simp only [List.cons_append, List.nil_append]
        refine ⟨(fun _ => (To.sat (by repeat (first | exact .nil | exact .done .refl | (apply To.cons; · (repeat (first | exact .head | apply Sel.tail))) | exact .done (by repeat (first | exact .refl | apply Drop.skip)))))), ?_⟩
        refine go_v rfl .none rfl (o_idxS rfl rfl (by first | assumption | omega)) ?_
        refine go_u rfl .none (o_storeSA (vs := rV ⟨yk, yv, a', c', l'.length, l'⟩) rfl rfl rfl rfl (by rw [flat_length rV 3 (fun _ => rfl), hS.ly]; show j * 3 + 3 ≤ 18; omega) (show 0 < 3 by decide)) (fun hG => absurd hG (by decide)) ?_
        rw [splice_flat rV 3 (fun _ => rfl) ⟨yk, yv, a', c', l'.length, l'⟩ ys j (by rw [hS.ly]; exact hj)]
        refine go_nil ?_
        refine ge_imp (fs (i := j) (l := ys.map rA) (A := rA ⟨yk, yv, a', c', l'.length, l'⟩) (by repeat (first | exact .head | apply Sel.tail)) (by repeat (first | exact .head | apply Sel.tail)) (by simp [hS.ly, hj])) ?_
        refine ge_imp (fs (i := j) (l := xs.map (oP X (⟨b, nm, nn⟩ : PB))) (A := oP X (⟨b, nm, nn⟩ : PB) (some (p, (goPO (⟨b, nm, nn⟩ : PB) L o)))) (by repeat (first | exact .head | apply Sel.tail)) (by repeat (first | exact .head | apply Sel.tail)) (by simp [hS.lx, hj])) ?_
        have hg := goP_in (B := (⟨b, nm, nn⟩ : PB)) hS.li hxy.1
        have hS' := hS.set (L' := (goPL (⟨b, nm, nn⟩ : PB) L o)) (goPL_len ..) hg.1 hj (some (p, (goPO (⟨b, nm, nn⟩ : PB) L o))) ⟨yk, yv, a', c', l'.length, l'⟩ ⟨hg.2, hR', hxy.2.2.1, hxy.2.2.2.1, hl', rfl, by have := hxy.2.2.2.2.2.2; simp only at this ⊢; omega⟩
        have hti := ktouched_in (v := o.over) ht0 (by omega : t ≤ 100000)
        have hov : (xs.set j (some (p, (goPO (⟨b, nm, nn⟩ : PB) L o)))).map oVP = xs.map oVP := by rw [List.map_set]; exact map_sameP (f := oVP) (y := some (p, o)) hx
        exact fun act wo hsl st => ⟨(goPL (⟨b, nm, nn⟩ : PB) L o), _, tr', _, _, hS', hti.1, by omega, hsl.keep (Keep.cons rfl (Keep.cons rfl (Keep.cons rfl (Keep.cons rfl (Keep.cons rfl (Keep.cons rfl (Keep.cons rfl (Keep.cons rfl (Keep.cons rfl (Keep.nil)))))))))), st.imp (by rw [hov]; simp only [List.map_set]; exact (To.sat (by repeat (first | exact .nil | exact .done .refl | (apply To.cons; · (repeat (first | exact .head | apply Sel.tail))) | exact .done (by repeat (first | exact .refl | apply Drop.skip))))))⟩
       ·
        first | replace hc8 := of_decide_eq_true hc8 | replace hc8 := lt_f hc8 | replace hc8 := le_f hc8 | replace hc8 := dec_f hc8 | replace hc8 := nlt_t hc8 | replace hc8 := nle_t hc8 | replace hc8 := ndec_t hc8 | replace hc8 := ndec_f hc8 | replace hc8 := nn_t hc8 | replace hc8 := nn_f hc8 | skip
        refine g_skip ?_
        exact fun act wo hsl st => ⟨L, t, tr, xs, ys, hS.mono (by omega), ht0, by omega, hsl.keep (Keep.cons rfl (Keep.cons rfl (Keep.cons rfl (Keep.cons rfl (Keep.cons rfl (Keep.cons rfl (Keep.cons rfl (Keep.cons rfl (Keep.cons rfl (Keep.nil)))))))))), st.imp (To.sat (by repeat (first | exact .nil | exact .done .refl | (apply To.cons; · (repeat (first | exact .head | apply Sel.tail))) | exact .done (by repeat (first | exact .refl | apply Drop.skip)))))⟩
     ·
      have hc4' := hc4
      first | replace hc4' := of_decide_eq_true hc4' | replace hc4' := lt_f hc4' | replace hc4' := le_f hc4' | replace hc4' := dec_f hc4' | replace hc4' := nlt_t hc4' | replace hc4' := nle_t hc4' | replace hc4' := ndec_t hc4' | replace hc4' := ndec_f hc4' | replace hc4' := nn_t hc4' | replace hc4' := nn_f hc4' | skip
      simp only [putO]
      refine gl_gF rfl rfl hc4 rfl ?_
      refine gl_v rfl (o_pickF hc4 rfl rfl) ?_
      refine gl_nil ?_
      refine ge_then ?_
      refine g_cond_false rfl ?_
      refine g_seq ?_
      have hxv : (xs.map oVP)[j * 1]? = some (oVP x) := by rw [Nat.mul_one]; exact map_at' hx
      refine g_region ?_
      refine gl_v rfl (o_move rfl) ?_
      refine gl_v rfl (o_move rfl) ?_
      refine gl_v rfl (o_idxS rfl rfl (by first | assumption | omega)) ?_
      refine gl_v rfl (o_loadS rfl hxv) ?_
      refine gl_v rfl (o_neqQ rfl rfl) ?_
      refine gl_nil ?_
      refine ge_then ?_
      refine g_cond rfl (fun hc9 => ?_) (fun hc9 => ?_)
      ·
       first | replace hc9 := of_decide_eq_true hc9 | replace hc9 := lt_f hc9 | replace hc9 := le_f hc9 | replace hc9 := dec_f hc9 | replace hc9 := nlt_t hc9 | replace hc9 := nle_t hc9 | replace hc9 := ndec_t hc9 | replace hc9 := ndec_f hc9 | replace hc9 := nn_t hc9 | replace hc9 := nn_f hc9 | skip
       obtain ⟨⟨p, o⟩, rfl⟩ : ∃ q, x = some q := by cases x with | none => cases hc9 | some q => exact ⟨q, rfl⟩
       obtain ⟨yk, yv, ya, yc, ykk, yl⟩ := y
       obtain rfl : ykk = yl.length := hxy.2.2.2.2.2.1
       refine g_seq ?_
       refine g_region ?_
       refine gl_v rfl (o_move rfl) ?_
       refine gl_c rfl (o_call rfl (PTouched X (⟨b, nm, nn⟩ : PB) L t) (by repeat (first | exact .nil | (apply Part.cons; · (repeat (first | exact .head | apply Sel.tail)))))) ?_
       rintro _ R ⟨_, ⟨rfl, rfl⟩, rfl⟩
       try simp only [List.cons_append, List.nil_append]
       refine gl_v rfl (o_assign rfl) ?_
       refine gl_nil ?_
       refine ge_then ?_
       refine g_seq ?_
       refine g_fo (l := xs.map (oP X (⟨b, nm, nn⟩ : PB))) (i := j) (A := postA X (⟨b, nm, nn⟩ : PB) p o) (by repeat (first | exact .head | apply Sel.tail)) (map_at' (f := oP X (⟨b, nm, nn⟩ : PB)) hx) ?_
       refine g_region ?_
       refine gl_v rfl (o_move rfl) ?_
       refine gl_v rfl (o_move rfl) ?_
       refine gl_v rfl (o_idxS rfl rfl (by first | assumption | omega)) ?_
       refine gl_v rfl (o_loadS rfl hxv) ?_
       refine gl_v rfl (o_nil rfl) ?_
       first | refine gl_v rfl (o_fldS rfl) ?_ | refine gl_v rfl (o_fld rfl) ?_
       refine gl_c rfl (o_call rfl (pstep_spec X (⟨b, nm, nn⟩ : PB) p L t o hS.pi hxy.1) (by repeat (first | exact .nil | (apply Part.cons; · (repeat (first | exact .head | apply Sel.tail)))))) ?_
       rintro _ R ⟨_, ⟨rfl, rfl⟩, rfl⟩
       try simp only [List.cons_append, List.nil_append]
       refine gl_v rfl (o_assign rfl) ?_
       refine gl_nil ?_
       refine ge_then ?_
       refine g_seq ?_
       refine g_seq ?_
       refine g_region ?_
       refine gl_v rfl (o_move rfl) ?_
       refine gl_v rfl (o_move rfl) ?_
       refine gl_c rfl (o_call rfl (PTouched X (⟨b, nm, nn⟩ : PB) (goPL (⟨b, nm, nn⟩ : PB) L o) (if o.over then t else tup t)) (by repeat (first | exact .nil | (apply Part.cons; · (repeat (first | exact .head | apply Sel.tail)))))) ?_
       rintro _ R ⟨_, ⟨rfl, rfl⟩, rfl⟩
       try simp only [List.cons_append, List.nil_append]
       refine gl_v rfl (o_move rfl) ?_
       refine gl_v rfl (o_eql rfl rfl) ?_
       refine gl_v rfl (o_is (c := false) (ktouched_same ht0 (by omega)) (o_neqb rfl rfl)) ?_
       refine gl_v rfl (o_move rfl) ?_
       refine gl_gT rfl rfl rfl ?_
       refine gl_v rfl (o_move rfl) ?_
       refine gl_gT rfl rfl rfl ?_
       refine gl_c rfl (o_call rfl (PTouched X (⟨b, nm, nn⟩ : PB) (goPL (⟨b, nm, nn⟩ : PB) L o) (if o.over then t else tup t)) (by repeat (first | exact .nil | (apply Part.cons; · (repeat (first | exact .head | apply Sel.tail)))))) ?_
       rintro _ R ⟨_, ⟨rfl, rfl⟩, rfl⟩
       try simp only [List.cons_append, List.nil_append]
       refine gl_gT rfl rfl rfl ?_
       refine gl_v rfl (o_move rfl) ?_
       refine gl_gT rfl rfl rfl ?_
       refine gl_v rfl (o_addR (t + 1) (wr_i64 (by omega)) rfl rfl) ?_
       refine gl_gT rfl rfl rfl ?_
       refine gl_v rfl (o_is (c := false) (ktouched_up ht0 (by omega)) (o_gtr rfl rfl)) ?_
       refine gl_v rfl (o_pickF rfl rfl rfl) ?_
       refine gl_v rfl (o_move rfl) ?_
       refine gl_gT rfl rfl rfl ?_
       refine gl_v rfl (o_move rfl) ?_
       refine gl_gT rfl rfl rfl ?_
       refine gl_v rfl (o_move rfl) ?_
       refine gl_gT rfl rfl rfl ?_
       refine gl_v rfl (o_move rfl) ?_
       refine gl_gT rfl rfl rfl ?_
       refine gl_v rfl (o_idxS rfl rfl (by first | assumption | omega)) ?_
       refine gl_gT rfl rfl rfl ?_
       refine gl_v rfl (o_loadS rfl hxv) ?_
       refine gl_gT rfl rfl rfl ?_
       refine gl_v rfl (o_nil rfl) ?_
       refine gl_gT rfl rfl rfl ?_
       first | refine gl_v rfl (o_fldS rfl) ?_ | refine gl_v rfl (o_fld rfl) ?_
       refine gl_gT rfl rfl rfl ?_
       refine gl_c rfl (o_call rfl (Over_post X (⟨b, nm, nn⟩ : PB) p (goPO (⟨b, nm, nn⟩ : PB) L o)) (by repeat (first | exact .nil | (apply Part.cons; · (repeat (first | exact .head | apply Sel.tail)))))) ?_
       rintro _ R ⟨_, ⟨rfl, rfl⟩, rfl⟩
       try simp only [List.cons_append, List.nil_append]
       refine gl_gT rfl rfl rfl ?_
       refine gl_v rfl (o_is (c := false) (by simp) (o_neqb rfl rfl)) ?_
       refine gl_v rfl (o_pickF rfl rfl rfl) ?_
       refine gl_nil ?_
       refine ge_then ?_
       refine g_cond_false rfl ?_
       refine g_skip ?_
       refine ge_then ?_
       refine g_fo (l := ys.map rA) (i := j) (A := (own (.slice ya yl.length yc) 39 1 yl.length (yl.map U64))) (by repeat (first | exact .head | apply Sel.tail)) (map_at' (f := rA) hy) ?_
       refine g_fact (fun _ s => own_leS (a := ya) (c := yc) (n := yl.length) (e := 39) (xs := yl.map U64) (by repeat (first | exact .head | apply Sel.tail)) s) ?_
       intro hyc
       refine g_draw [8, 10] [8] [(0, .stab), (1, .stab), (2, .loc), (3, .loc), (4, .loc), (5, .loc), (6, .loc), (7, .loc), (8, .eff), (9, .loc), (10, .eff)] [own (.slice a78 6 c78) 52 3 6 (ys.flatMap rV), cel b7 25 [I64 b, I64 nm, I64 nn]] mixed (by kernel_rfl) ?_
       refine go_vs rfl .none rfl (o_move rfl) (To.sat (by repeat (first | exact .nil | exact .done .refl | (apply To.cons; · (repeat (first | exact .head | apply Sel.tail))) | exact .done (by repeat (first | exact .refl | apply Drop.skip))))) ?_
       refine go_vs rfl .none rfl (o_move rfl) (To.sat (by repeat (first | exact .nil | exact .done .refl | (apply To.cons; · (repeat (first | exact .head | apply Sel.tail))) | exact .done (by repeat (first | exact .refl | apply Drop.skip))))) ?_
       refine go_v rfl .none rfl (o_move rfl) ?_
       first | refine go_v rfl .none rfl (o_loadSA rfl rfl rfl) ?_ | refine go_v rfl .none rfl (o_loadA rfl rfl rfl) ?_
       refine go_v rfl .none rfl (o_move rfl) ?_
       refine go_v rfl .none rfl (o_move rfl) ?_
       refine go_v rfl .none rfl (o_idxS rfl rfl (by first | assumption | omega)) ?_
       refine go_v rfl .none rfl (o_loadSA rfl (flat_take rV 3 (fun _ => rfl) hy) rfl) ?_
       refine go_c rfl .none rfl (o_call rfl (rstepP_spec q (⟨b, nm, nn⟩ : PB) hS.hB yk yv hxy.2.2.1 hxy.2.2.2.1 ya yc yl hxy.2.2.2.2.1 (by have := hxy.2.2.2.2.2.2; simp only at this; omega) hyc L tr hS.pi hS.li o hxy.1 hxy.2.1) (by repeat (first | exact .nil | (apply Part.cons; · (repeat (first | exact .head | apply Sel.tail)))))) ?_
       rintro _ R ⟨_, ⟨a', c', l', tr', rfl, hR', hl', hln', rfl⟩, rfl⟩
       try simp only [List.cons_append, List.nil_append]
       refine ⟨(fun _ => (To.sat (by repeat (first | exact .nil | exact .done .refl | (apply To.cons; · (repeat (first | exact .head | apply Sel.tail))) | exact .done (by repeat (first | exact .refl | apply Drop.skip)))))), ?_⟩
       refine go_v rfl .none rfl (o_idxS rfl rfl (by first | assumption | omega)) ?_
       refine go_u rfl .none (o_storeSA (vs := rV ⟨yk, yv, a', c', l'.length, l'⟩) rfl rfl rfl rfl (by rw [flat_length rV 3 (fun _ => rfl), hS.ly]; show j * 3 + 3 ≤ 18; omega) (show 0 < 3 by decide)) (fun hG => absurd hG (by decide)) ?_
       rw [splice_flat rV 3 (fun _ => rfl) ⟨yk, yv, a', c', l'.length, l'⟩ ys j (by rw [hS.ly]; exact hj)]
       refine go_nil ?_
       refine ge_imp (fs (i := j) (l := ys.map rA) (A := rA ⟨yk, yv, a', c', l'.length, l'⟩) (by repeat (first | exact .head | apply Sel.tail)) (by repeat (first | exact .head | apply Sel.tail)) (by simp [hS.ly, hj])) ?_
       refine ge_imp (fs (i := j) (l := xs.map (oP X (⟨b, nm, nn⟩ : PB))) (A := oP X (⟨b, nm, nn⟩ : PB) (some (p, (goPO (⟨b, nm, nn⟩ : PB) L o)))) (by repeat (first | exact .head | apply Sel.tail)) (by repeat (first | exact .head | apply Sel.tail)) (by simp [hS.lx, hj])) ?_
       have hg := goP_in (B := (⟨b, nm, nn⟩ : PB)) hS.li hxy.1
       have hS' := hS.set (L' := (goPL (⟨b, nm, nn⟩ : PB) L o)) (goPL_len ..) hg.1 hj (some (p, (goPO (⟨b, nm, nn⟩ : PB) L o))) ⟨yk, yv, a', c', l'.length, l'⟩ ⟨hg.2, hR', hxy.2.2.1, hxy.2.2.2.1, hl', rfl, by have := hxy.2.2.2.2.2.2; simp only at this ⊢; omega⟩
       have hti := ktouched_in (v := o.over) ht0 (by omega : t ≤ 100000)
       have hov : (xs.set j (some (p, (goPO (⟨b, nm, nn⟩ : PB) L o)))).map oVP = xs.map oVP := by rw [List.map_set]; exact map_sameP (f := oVP) (y := some (p, o)) hx
       exact fun act wo hsl st => ⟨(goPL (⟨b, nm, nn⟩ : PB) L o), _, tr', _, _, hS', hti.1, by omega, hsl.keep (Keep.cons rfl (Keep.cons rfl (Keep.cons rfl (Keep.cons rfl (Keep.cons rfl (Keep.cons rfl (Keep.cons rfl (Keep.cons rfl (Keep.cons rfl (Keep.nil)))))))))), st.imp (by rw [hov]; simp only [List.map_set]; exact (To.sat (by repeat (first | exact .nil | exact .done .refl | (apply To.cons; · (repeat (first | exact .head | apply Sel.tail))) | exact .done (by repeat (first | exact .refl | apply Drop.skip))))))⟩
      ·
       first | replace hc9 := of_decide_eq_true hc9 | replace hc9 := lt_f hc9 | replace hc9 := le_f hc9 | replace hc9 := dec_f hc9 | replace hc9 := nlt_t hc9 | replace hc9 := nle_t hc9 | replace hc9 := ndec_t hc9 | replace hc9 := ndec_f hc9 | replace hc9 := nn_t hc9 | replace hc9 := nn_f hc9 | skip
       refine g_skip ?_
       exact fun act wo hsl st => ⟨L, t, tr, xs, ys, hS.mono (by omega), ht0, by omega, hsl.keep (Keep.cons rfl (Keep.cons rfl (Keep.cons rfl (Keep.cons rfl (Keep.cons rfl (Keep.cons rfl (Keep.cons rfl (Keep.cons rfl (Keep.cons rfl (Keep.nil)))))))))), st.imp (To.sat (by repeat (first | exact .nil | exact .done .refl | (apply To.cons; · (repeat (first | exact .head | apply Sel.tail))) | exact .done (by repeat (first | exact .refl | apply Drop.skip)))))⟩
    ·
     rintro act wo ⟨L, t, tr, xs, ys, hS, ht0, ht1, hsl, st⟩
     refine g_of ?_ hsl st
     clear hsl st act wo
     refine g_seq ?_
     obtain ⟨x, y, hx, hy, hxy⟩ := hS.all j hj
     have hxv : (xs.map oVP)[j * 1]? = some (oVP x) := by rw [Nat.mul_one]; exact map_at' hx
     have hL9 : L.length ≤ 300 := by have h1' := hS.hm; have h2' := hS.hn; have h3' := hS.hb; have h4' := hS.len; omega
     obtain ⟨yk, yv, ya, yc, ykk, yl⟩ := y
     refine g_fo (l := xs.map (oP X (⟨b, nm, nn⟩ : PB))) (i := j) (A := oP X (⟨b, nm, nn⟩ : PB) x) (by repeat (first | exact .head | apply Sel.tail)) (map_at' (f := oP X (⟨b, nm, nn⟩ : PB)) hx) ?_
     refine g_fo (l := ys.map rA) (i := j) (A := (own (.slice ya ykk yc) 39 1 ykk (yl.map U64))) (by repeat (first | exact .head | apply Sel.tail)) (map_at' (f := rA) hy) ?_
     refine g_fact (fun _ s => own_leS (a := ya) (c := yc) (n := ykk) (e := 39) (xs := yl.map U64) (by repeat (first | exact .head | apply Sel.tail)) s) ?_
     intro hyc
     refine g_imp (fun h s => Sel.to (A := rmemA q L tr) (by repeat (first | exact .head | apply Sel.tail)) s) ?_
     refine g_open .head ?_
     rintro ⟨ax, cx⟩ -
     simp only [List.cons_append, List.nil_append]
     refine g_draw [15, 16, 21, 26] [15, 21] [(0, .loc), (1, .loc), (2, .loc), (3, .loc), (4, .loc), (5, .loc), (6, .stab), (7, .stab), (8, .stab), (9, .stab), (10, .loc), (11, .loc), (12, .loc), (13, .loc), (14, .loc), (15, .eff), (16, .eff), (17, .loc), (18, .loc), (19, .loc), (20, .loc), (22, .stab), (23, .stab), (24, .stab), (25, .stab), (21, .eff), (26, .eff), (27, .loc), (28, .loc)] [own (.slice a77 6 c77) 42 1 6 (xs.map oVP), own (.slice a78 6 c78) 52 3 6 (ys.flatMap rV), cel b7 25 [I64 b, I64 nm, I64 nn], cel q 61 [.slice ax L.length cx, I64 tr]] mixed (by kernel_rfl) ?_
     refine go_v rfl .none rfl (o_move rfl) ?_
     refine go_v rfl .none rfl (o_move rfl) ?_
     refine go_v rfl .none rfl (o_idxS rfl rfl (by first | assumption | omega)) ?_
     refine go_v rfl .none rfl (o_loadS rfl hxv) ?_
     refine go_v rfl .none rfl (o_neqQ rfl rfl) ?_
     refine go_v rfl .none rfl (o_move rfl) ?_
     refine go_split (j := 5) rfl rfl (fun hc10 => ?_) (fun hc10 => ?_)
     ·
      have hc10' := hc10
      first | replace hc10' := of_decide_eq_true hc10' | replace hc10' := lt_f hc10' | replace hc10' := le_f hc10' | replace hc10' := dec_f hc10' | replace hc10' := nlt_t hc10' | replace hc10' := nle_t hc10' | replace hc10' := ndec_t hc10' | replace hc10' := ndec_f hc10' | replace hc10' := nn_t hc10' | replace hc10' := nn_f hc10' | skip
      obtain ⟨⟨p, o⟩, rfl⟩ : ∃ q, x = some q := by cases x with | none => simp at * | some q => exact ⟨q, rfl⟩
      obtain rfl : ykk = yl.length := hxy.2.2.2.2.2.1
      refine go_vs rfl (.yes rfl rfl hc10) rfl (o_move rfl) (To.sat (by repeat (first | exact .nil | exact .done .refl | (apply To.cons; · (repeat (first | exact .head | apply Sel.tail))) | exact .done (by repeat (first | exact .refl | apply Drop.skip))))) ?_
      refine go_vs rfl (.yes rfl rfl hc10) rfl (o_move rfl) (To.sat (by repeat (first | exact .nil | exact .done .refl | (apply To.cons; · (repeat (first | exact .head | apply Sel.tail))) | exact .done (by repeat (first | exact .refl | apply Drop.skip))))) ?_
      refine go_vs rfl (.yes rfl rfl hc10) rfl (o_idxS rfl rfl (by first | assumption | omega)) (To.sat (by repeat (first | exact .nil | exact .done .refl | (apply To.cons; · (repeat (first | exact .head | apply Sel.tail))) | exact .done (by repeat (first | exact .refl | apply Drop.skip))))) ?_
      refine go_vs rfl (.yes rfl rfl hc10) rfl (o_loadS rfl hxv) (To.sat (by repeat (first | exact .nil | exact .done .refl | (apply To.cons; · (repeat (first | exact .head | apply Sel.tail))) | exact .done (by repeat (first | exact .refl | apply Drop.skip))))) ?_
      first | refine go_v rfl (.yes rfl rfl hc10) rfl (o_loadSA rfl rfl rfl) ?_ | refine go_v rfl (.yes rfl rfl hc10) rfl (o_loadA rfl rfl rfl) ?_
      refine go_v rfl (.yes rfl rfl hc10) rfl (o_move rfl) ?_
      refine go_v rfl (.yes rfl rfl hc10) rfl (o_move rfl) ?_
      refine go_v rfl (.yes rfl rfl hc10) rfl (o_idxS rfl rfl (by first | assumption | omega)) ?_
      refine go_v rfl (.yes rfl rfl hc10) rfl (o_loadSA rfl (flat_take rV 3 (fun _ => rfl) hy) rfl) ?_
      refine go_c rfl (.yes rfl rfl hc10) rfl (o_call rfl (rnextP_spec (⟨b, nm, nn⟩ : PB) hS.hB yk yv hxy.2.2.1 hxy.2.2.2.1 ya yc yl hxy.2.2.2.2.1 (by have := hxy.2.2.2.2.2.2; simp only at this; omega) (own (.slice ya yl.length yc) 39 1 yl.length (yl.map U64)) (rd_own hyc)) (by repeat (first | exact .nil | (apply Part.cons; · (repeat (first | exact .head | apply Sel.tail)))))) ?_
      rintro _ R ⟨_, ⟨rfl, rfl⟩, rfl⟩
      try simp only [List.cons_append, List.nil_append]
      refine ⟨(fun _ => (To.sat (by repeat (first | exact .nil | exact .done .refl | (apply To.cons; · (repeat (first | exact .head | apply Sel.tail))) | exact .done (by repeat (first | exact .refl | apply Drop.skip)))))), ?_⟩
      refine go_c rfl (.yes rfl rfl hc10) rfl (o_call rfl (plike_spec X (⟨b, nm, nn⟩ : PB) p o (nextP (⟨b, nm, nn⟩ : PB) yk yv yl) hxy.1 hxy.2.1.like) (by repeat (first | exact .nil | (apply Part.cons; · (repeat (first | exact .head | apply Sel.tail)))))) ?_
      rintro _ R ⟨_, ⟨rfl, rfl⟩, rfl⟩
      try simp only [List.cons_append, List.nil_append]
      refine ⟨(fun hG => absurd hG (by decide)), ?_⟩
      refine go_v rfl (.yes rfl rfl hc10) rfl (o_is (c := false) (by rfl) (o_not rfl)) ?_
      refine go_v rfl .none rfl (o_pickT hc10 rfl rfl) ?_
      refine go_v rfl .none rfl (o_move rfl) ?_
      refine go_v rfl (.yes rfl rfl rfl) rfl (o_move rfl) ?_
      refine go_vs rfl (.yes rfl rfl rfl) rfl (o_move rfl) (To.sat (by repeat (first | exact .nil | exact .done .refl | (apply To.cons; · (repeat (first | exact .head | apply Sel.tail))) | exact .done (by repeat (first | exact .refl | apply Drop.skip))))) ?_
      refine go_vs rfl (.yes rfl rfl rfl) rfl (o_nil rfl) (To.sat (by repeat (first | exact .nil | exact .done .refl | (apply To.cons; · (repeat (first | exact .head | apply Sel.tail))) | exact .done (by repeat (first | exact .refl | apply Drop.skip))))) ?_
      first | refine go_vs rfl (.yes rfl rfl rfl) rfl (o_fldS rfl) (To.sat (by repeat (first | exact .nil | exact .done .refl | (apply To.cons; · (repeat (first | exact .head | apply Sel.tail))) | exact .done (by repeat (first | exact .refl | apply Drop.skip))))) ?_ | refine go_vs rfl (.yes rfl rfl rfl) rfl (o_fld rfl) (To.sat (by repeat (first | exact .nil | exact .done .refl | (apply To.cons; · (repeat (first | exact .head | apply Sel.tail))) | exact .done (by repeat (first | exact .refl | apply Drop.skip))))) ?_
      first | refine go_vs rfl (.yes rfl rfl rfl) rfl (o_load rfl rfl) (To.sat (by repeat (first | exact .nil | exact .done .refl | (apply To.cons; · (repeat (first | exact .head | apply Sel.tail))) | exact .done (by repeat (first | exact .refl | apply Drop.skip))))) ?_ | refine go_vs rfl (.yes rfl rfl rfl) rfl (o_loadS rfl rfl) (To.sat (by repeat (first | exact .nil | exact .done .refl | (apply To.cons; · (repeat (first | exact .head | apply Sel.tail))) | exact .done (by repeat (first | exact .refl | apply Drop.skip))))) ?_ | refine go_vs rfl (.yes rfl rfl rfl) rfl (o_loadC rfl) (To.sat (by repeat (first | exact .nil | exact .done .refl | (apply To.cons; · (repeat (first | exact .head | apply Sel.tail))) | exact .done (by repeat (first | exact .refl | apply Drop.skip))))) ?_
      refine go_c rfl (.yes rfl rfl rfl) rfl (o_call rfl (PAll X (⟨b, nm, nn⟩ : PB) L t (by omega)) (by repeat (first | exact .nil | (apply Part.cons; · (repeat (first | exact .head | apply Sel.tail)))))) ?_
      rintro _ R ⟨_, ⟨a9, c9, rfl, rfl⟩, rfl⟩
      try simp only [List.cons_append, List.nil_append]
      refine ⟨(fun _ => (To.sat (by repeat (first | exact .nil | exact .done .refl | (apply To.cons; · (repeat (first | exact .head | apply Sel.tail))) | exact .done (by repeat (first | exact .refl | apply Drop.skip)))))), ?_⟩
      refine go_c rfl (.yes rfl rfl rfl) rfl (o_call rfl (rSame_spec (.slice a9 L.length c9) (.slice ax L.length cx) L L (by omega) (by omega) (own (.slice a9 L.length c9) 39 1 L.length (L.map U64)) (own (.slice ax L.length cx) 39 1 L.length (L.map U64))) (by repeat (first | exact .nil | (apply Part.cons; · (repeat (first | exact .head | apply Sel.tail)))))) ?_
      rintro _ R ⟨_, ⟨rfl, rfl⟩, rfl⟩
      try simp only [List.cons_append, List.nil_append]
      refine ⟨(fun hG => absurd hG (by decide)), ?_⟩
      refine go_v rfl (.yes rfl rfl rfl) rfl (o_is (c := false) (by simp) (o_not rfl)) ?_
      refine go_v rfl .none rfl (o_pickF rfl rfl rfl) ?_
      refine go_nil ?_
      first
      | (refine ge_imp (fs (i := j) (l := ys.map rA) (A := rA ⟨yk, yv, ya, yc, ykk, yl⟩) (by repeat (first | exact .head | apply Sel.tail)) (by repeat (first | exact .head | apply Sel.tail)) (by simp [hS.ly, hj])) ?_; rw [map_sameP (f := rA) hy])
      | (refine ge_imp (fs (i := j) (l := ys.map rA) (A := rA ⟨yk, yv, ya, yc, yl.length, yl⟩) (by repeat (first | exact .head | apply Sel.tail)) (by repeat (first | exact .head | apply Sel.tail)) (by simp [hS.ly, hj])) ?_; rw [map_sameP (f := rA) hy])
      first
      | (refine ge_imp (fs (i := j) (l := xs.map (oP X (⟨b, nm, nn⟩ : PB))) (A := oP X (⟨b, nm, nn⟩ : PB) x) (by repeat (first | exact .head | apply Sel.tail)) (by repeat (first | exact .head | apply Sel.tail)) (by simp [hS.lx, hj])) ?_; rw [map_sameP (f := oP X (⟨b, nm, nn⟩ : PB)) hx])
      | (refine ge_imp (fs (i := j) (l := xs.map (oP X (⟨b, nm, nn⟩ : PB))) (A := oP X (⟨b, nm, nn⟩ : PB) (some (p, o))) (by repeat (first | exact .head | apply Sel.tail)) (by repeat (first | exact .head | apply Sel.tail)) (by simp [hS.lx, hj])) ?_; rw [map_sameP (f := oP X (⟨b, nm, nn⟩ : PB)) hx])
      refine ge_imp (rmem_shut (p := q) (L := L) (t := tr) ax cx (by repeat (first | exact .head | apply Sel.tail)) (by repeat (first | exact .head | apply Sel.tail))) ?_
      refine ge_then ?_
      refine g_cond_false rfl ?_
      refine g_skip ?_
      refine ge_block ?_
      refine ge_then ?_
      refine g_region ?_
      refine gl_v rfl (o_move rfl) ?_
      refine gl_v rfl (o_addR _ (by first | exact wr_i64 (by omega) | rfl) rfl rfl) ?_
      refine gl_v rfl (o_assign rfl) ?_
      refine gl_nil ?_
      refine ge_round (i + 1, L, t, tr, xs, ys) ⟨hS, by show i + 1 ≤ 300; omega, by show i + 1 ≤ vs.length; omega, ht0, by show t ≤ 1000 + ((i + 1 : Nat) : Int); omega⟩ (by show 300 - (i + 1) < 300 - i; omega) (Keep.cons rfl (Keep.cons rfl (Keep.cons rfl (Keep.cons rfl (Keep.cons rfl (Keep.cons rfl (Keep.cons rfl (Keep.cons rfl (Keep.nil))))))))) (To.sat (by repeat (first | exact .nil | exact .done .refl | (apply To.cons; · (repeat (first | exact .head | apply Sel.tail))) | exact .done (by repeat (first | exact .refl | apply Drop.skip)))))
     ·
      have hc10' := hc10
      first | replace hc10' := of_decide_eq_true hc10' | replace hc10' := lt_f hc10' | replace hc10' := le_f hc10' | replace hc10' := dec_f hc10' | replace hc10' := nlt_t hc10' | replace hc10' := nle_t hc10' | replace hc10' := ndec_t hc10' | replace hc10' := ndec_f hc10' | replace hc10' := nn_t hc10' | replace hc10' := nn_f hc10' | skip
      refine go_skip rfl (.no rfl rfl hc10) rfl ?_
      refine go_skip rfl (.no rfl rfl hc10) rfl ?_
      refine go_skip rfl (.no rfl rfl hc10) rfl ?_
      refine go_skip rfl (.no rfl rfl hc10) rfl ?_
      refine go_skip rfl (.no rfl rfl hc10) rfl ?_
      refine go_skip rfl (.no rfl rfl hc10) rfl ?_
      refine go_skip rfl (.no rfl rfl hc10) rfl ?_
      refine go_skip rfl (.no rfl rfl hc10) rfl ?_
      refine go_skip rfl (.no rfl rfl hc10) rfl ?_
      refine go_skip rfl (.no rfl rfl hc10) rfl ?_
      refine go_skip rfl (.no rfl rfl hc10) rfl ?_
      refine go_skip rfl (.no rfl rfl hc10) rfl ?_
      refine go_v rfl .none rfl (o_pickF hc10 rfl rfl) ?_
      refine go_v rfl .none rfl (o_move rfl) ?_
      refine go_v rfl (.yes rfl rfl rfl) rfl (o_move rfl) ?_
      refine go_vs rfl (.yes rfl rfl rfl) rfl (o_move rfl) (To.sat (by repeat (first | exact .nil | exact .done .refl | (apply To.cons; · (repeat (first | exact .head | apply Sel.tail))) | exact .done (by repeat (first | exact .refl | apply Drop.skip))))) ?_
      refine go_vs rfl (.yes rfl rfl rfl) rfl (o_nil rfl) (To.sat (by repeat (first | exact .nil | exact .done .refl | (apply To.cons; · (repeat (first | exact .head | apply Sel.tail))) | exact .done (by repeat (first | exact .refl | apply Drop.skip))))) ?_
      first | refine go_vs rfl (.yes rfl rfl rfl) rfl (o_fldS rfl) (To.sat (by repeat (first | exact .nil | exact .done .refl | (apply To.cons; · (repeat (first | exact .head | apply Sel.tail))) | exact .done (by repeat (first | exact .refl | apply Drop.skip))))) ?_ | refine go_vs rfl (.yes rfl rfl rfl) rfl (o_fld rfl) (To.sat (by repeat (first | exact .nil | exact .done .refl | (apply To.cons; · (repeat (first | exact .head | apply Sel.tail))) | exact .done (by repeat (first | exact .refl | apply Drop.skip))))) ?_
      first | refine go_vs rfl (.yes rfl rfl rfl) rfl (o_load rfl rfl) (To.sat (by repeat (first | exact .nil | exact .done .refl | (apply To.cons; · (repeat (first | exact .head | apply Sel.tail))) | exact .done (by repeat (first | exact .refl | apply Drop.skip))))) ?_ | refine go_vs rfl (.yes rfl rfl rfl) rfl (o_loadS rfl rfl) (To.sat (by repeat (first | exact .nil | exact .done .refl | (apply To.cons; · (repeat (first | exact .head | apply Sel.tail))) | exact .done (by repeat (first | exact .refl | apply Drop.skip))))) ?_ | refine go_vs rfl (.yes rfl rfl rfl) rfl (o_loadC rfl) (To.sat (by repeat (first | exact .nil | exact .done .refl | (apply To.cons; · (repeat (first | exact .head | apply Sel.tail))) | exact .done (by repeat (first | exact .refl | apply Drop.skip))))) ?_
      refine go_c rfl (.yes rfl rfl rfl) rfl (o_call rfl (PAll X (⟨b, nm, nn⟩ : PB) L t (by omega)) (by repeat (first | exact .nil | (apply Part.cons; · (repeat (first | exact .head | apply Sel.tail)))))) ?_
      rintro _ R ⟨_, ⟨a9, c9, rfl, rfl⟩, rfl⟩
      try simp only [List.cons_append, List.nil_append]
      refine ⟨(fun _ => (To.sat (by repeat (first | exact .nil | exact .done .refl | (apply To.cons; · (repeat (first | exact .head | apply Sel.tail))) | exact .done (by repeat (first | exact .refl | apply Drop.skip)))))), ?_⟩
      refine go_c rfl (.yes rfl rfl rfl) rfl (o_call rfl (rSame_spec (.slice a9 L.length c9) (.slice ax L.length cx) L L (by omega) (by omega) (own (.slice a9 L.length c9) 39 1 L.length (L.map U64)) (own (.slice ax L.length cx) 39 1 L.length (L.map U64))) (by repeat (first | exact .nil | (apply Part.cons; · (repeat (first | exact .head | apply Sel.tail)))))) ?_
      rintro _ R ⟨_, ⟨rfl, rfl⟩, rfl⟩
      try simp only [List.cons_append, List.nil_append]
      refine ⟨(fun hG => absurd hG (by decide)), ?_⟩
      refine go_v rfl (.yes rfl rfl rfl) rfl (o_is (c := false) (by simp) (o_not rfl)) ?_
      refine go_v rfl .none rfl (o_pickF rfl rfl rfl) ?_
      refine go_nil ?_
      first
      | (refine ge_imp (fs (i := j) (l := ys.map rA) (A := rA ⟨yk, yv, ya, yc, ykk, yl⟩) (by repeat (first | exact .head | apply Sel.tail)) (by repeat (first | exact .head | apply Sel.tail)) (by simp [hS.ly, hj])) ?_; rw [map_sameP (f := rA) hy])
      | (refine ge_imp (fs (i := j) (l := ys.map rA) (A := rA ⟨yk, yv, ya, yc, yl.length, yl⟩) (by repeat (first | exact .head | apply Sel.tail)) (by repeat (first | exact .head | apply Sel.tail)) (by simp [hS.ly, hj])) ?_; rw [map_sameP (f := rA) hy])
      first
      | (refine ge_imp (fs (i := j) (l := xs.map (oP X (⟨b, nm, nn⟩ : PB))) (A := oP X (⟨b, nm, nn⟩ : PB) x) (by repeat (first | exact .head | apply Sel.tail)) (by repeat (first | exact .head | apply Sel.tail)) (by simp [hS.lx, hj])) ?_; rw [map_sameP (f := oP X (⟨b, nm, nn⟩ : PB)) hx])
      | (refine ge_imp (fs (i := j) (l := xs.map (oP X (⟨b, nm, nn⟩ : PB))) (A := oP X (⟨b, nm, nn⟩ : PB) (some (p, o))) (by repeat (first | exact .head | apply Sel.tail)) (by repeat (first | exact .head | apply Sel.tail)) (by simp [hS.lx, hj])) ?_; rw [map_sameP (f := oP X (⟨b, nm, nn⟩ : PB)) hx])
      refine ge_imp (rmem_shut (p := q) (L := L) (t := tr) ax cx (by repeat (first | exact .head | apply Sel.tail)) (by repeat (first | exact .head | apply Sel.tail))) ?_
      refine ge_then ?_
      refine g_cond_false rfl ?_
      refine g_skip ?_
      refine ge_block ?_
      refine ge_then ?_
      refine g_region ?_
      refine gl_v rfl (o_move rfl) ?_
      refine gl_v rfl (o_addR _ (by first | exact wr_i64 (by omega) | rfl) rfl rfl) ?_
      refine gl_v rfl (o_assign rfl) ?_
      refine gl_nil ?_
      refine ge_round (i + 1, L, t, tr, xs, ys) ⟨hS, by show i + 1 ≤ 300; omega, by show i + 1 ≤ vs.length; omega, ht0, by show t ≤ 1000 + ((i + 1 : Nat) : Int); omega⟩ (by show 300 - (i + 1) < 300 - i; omega) (Keep.cons rfl (Keep.cons rfl (Keep.cons rfl (Keep.cons rfl (Keep.cons rfl (Keep.cons rfl (Keep.cons rfl (Keep.cons rfl (Keep.nil))))))))) (To.sat (by repeat (first | exact .nil | exact .done .refl | (apply To.cons; · (repeat (first | exact .head | apply Sel.tail))) | exact .done (by repeat (first | exact .refl | apply Drop.skip)))))
  ·
   first | replace hc2 := of_decide_eq_true hc2 | replace hc2 := lt_f hc2 | replace hc2 := le_f hc2 | replace hc2 := dec_f hc2 | replace hc2 := nlt_t hc2 | replace hc2 := nle_t hc2 | replace hc2 := ndec_t hc2 | replace hc2 := ndec_f hc2 | replace hc2 := nn_t hc2 | replace hc2 := nn_f hc2 | skip
   refine g_exit ?_
   refine ge_then_exit ?_
   refine ge_then_exit ?_
   refine ge_block_exit ?_
   refine ge_then ?_
   refine g_seq ?_
   refine g_region ?_
   refine gl_v rfl (o_assign rfl) ?_
   refine gl_nil ?_
   refine ge_then ?_
   refine g_ret ?_
   refine ret1 (.inl rfl) rfl rfl _ (⟨rfl, rfl⟩) (To.sat (by repeat (first | exact .nil | exact .done .refl | (apply To.cons; · (repeat (first | exact .head | apply Sel.tail))) | exact .done (by repeat (first | exact .refl | apply Drop.skip)))))
 ·
  have hc1' := hc1
  first | replace hc1' := of_decide_eq_true hc1' | replace hc1' := lt_f hc1' | replace hc1' := le_f hc1' | replace hc1' := dec_f hc1' | replace hc1' := nlt_t hc1' | replace hc1' := nle_t hc1' | replace hc1' := ndec_t hc1' | replace hc1' := ndec_f hc1' | replace hc1' := nn_t hc1' | replace hc1' := nn_f hc1' | skip
  simp only [putO]
  refine gl_gF rfl rfl hc1 rfl ?_
  refine gl_v rfl (o_pickF hc1 rfl rfl) ?_
  refine gl_nil ?_
  refine ge_then ?_
  refine g_cond_false rfl ?_
  refine g_exit ?_
  refine ge_then_exit ?_
  refine ge_then_exit ?_
  refine ge_block_exit ?_
  refine ge_then ?_
  refine g_seq ?_
  refine g_region ?_
  refine gl_v rfl (o_assign rfl) ?_
  refine gl_nil ?_
  refine ge_then ?_
  refine g_ret ?_
  refine ret1 (.inl rfl) rfl rfl _ (⟨rfl, rfl⟩) (To.sat (by repeat (first | exact .nil | exact .done .refl | (apply To.cons; · (repeat (first | exact .head | apply Sel.tail))) | exact .done (by repeat (first | exact .refl | apply Drop.skip)))))

end Go.Proofs.YtkpgcdhepfgfaaaGreat.L
