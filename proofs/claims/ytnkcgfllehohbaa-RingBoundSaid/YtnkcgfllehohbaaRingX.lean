/-
  RingOrder, RingBound: the crowd's steps. Own work, printed in part by a program of its own.
-/
import Derived.Test.YtnkcgfllehohbaaRingI
import Derived.Test.YtnkcgfllehohbaaRingW
import Derived.Test.YtnkcgfllehohbaaTree
namespace Go.Proofs.Ytnkcgfllehohbaa.L
open Go.L Go.L.Ring
def oV : Option (Nat × RO) → Value
  | none => .pointer none
  | some q => ptr q.1 0
def oA (r : Nat) : Option (Nat × RO) → Assn
  | none => emp
  | some q => opA q.1 r q.2
structure SlX where
  a : Option Addr
  c : Nat
  k : Nat
  l : List Int
def iV (y : SlX) : Value := .slice y.a y.k y.c
def iA (y : SlX) : Assn := own (.slice y.a y.k y.c) 28 1 y.k (y.l.map U64)
structure CrX where
  a1 : Option Addr
  c1 : Nat
  a2 : Option Addr
  c2 : Nat
  a3 : Option Addr
  c3 : Nat
  a6 : Option Addr
  c6 : Nat
  k6 : Nat
  xs : List (Option (Nat × RO))
  ys : List SlX
  tk : Option (Nat × RO)
  t : Int
def crL (q r m n : Nat) (c : CW) (x : CrX) : List Assn :=
  [cel q 52 [ptr r 0, .slice x.a1 3 x.c1, .slice x.a2 3 x.c2, .slice x.a3 3 x.c3, oV x.tk, I64 c.steps, .slice x.a6 x.k6 x.c6, I64 c.most, I64 c.count],
   own (.slice x.a1 3 x.c1) 50 1 3 (x.xs.map oV), own (.slice x.a2 3 x.c2) 28 1 3 (c.nx.map U64), own (.slice x.a3 3 x.c3) 35 1 3 (x.ys.map iV),
   own (.slice x.a6 x.k6 x.c6) 28 1 x.k6 (c.taken.map U64), memA m c.L x.t, ringA r m 0 n, oA r x.tk, fam (x.ys.map iA), fam (x.xs.map (oA r))]
def crI (c : CW) (x : CrX) : Prop := x.xs.map (Option.map Prod.snd) = c.ps ∧ x.ys.map (·.l) = c.inn ∧ x.tk.map Prod.snd = c.tk ∧ (∀ y ∈ x.ys, y.k = y.l.length) ∧ x.k6 = c.taken.length
def crowdA (q r m n : Nat) (c : CW) : Assn := exA (crI c) (crL q r m n c)
theorem crowd_close {q r m n : Nat} {c : CW} {As R : List Assn} (x : CrX) (h1 : crI c x) (t : ∀ h, Sat As h → Sat (crL q r m n c x ++ R) h) : ∀ h, Sat As h → Sat (crowdA q r m n c :: R) h := ex_close x h1 t
theorem ci_RI {n B : Nat} {c : CW} {hs : List Tk} {f h : Nat} (C : CI n B c hs f h) : RI 0 n c.L := ⟨C.RI.1, C.RI.2.1, C.RI.2.2.1, C.RI.2.2.2⟩
theorem ci_cnt {n B : Nat} {c : CW} {hs : List Tk} {f h : Nat} (C : CI n B c hs f h) : -(B : Int) ≤ c.count ∧ c.count ≤ B := by
  have h1 := C.cnt; have h2 := finN_le hs; have h3 := C.TB; have h4 := C.fT; omega
theorem ci_inn {n B : Nat} {c : CW} {hs : List Tk} {f h : Nat} (C : CI n B c hs f h) {p : Nat} (hp : p < 3) : (c.inn.getD p []).length ≤ B := by
  rw [C.inn p hp]; unfold mineOf; rw [List.length_map]
  exact Nat.le_trans (List.length_filter_le _ _) C.TB
theorem ci_taken {n B : Nat} {c : CW} {hs : List Tk} {f h : Nat} (C : CI n B c hs f h) : c.taken.length ≤ B := by
  rw [C.took]; simp only [List.length_map, List.length_take]; have := C.TB; omega
theorem get_some {xs : List (Option (Nat × RO))} {ps : List (Option RO)} (e : xs.map (Option.map Prod.snd) = ps) (lp : ps.length = 3) {p : Nat} (hp : p < 3) {o : RO} (h : ps.getD p none = some o) : ∃ a, xs[p]? = some (some (a, o)) := by
  subst e
  rw [List.length_map] at lp
  rw [List.getD_eq_getElem?_getD, List.getElem?_map, List.getElem?_eq_getElem (by omega)] at h
  rw [List.getElem?_eq_getElem (by omega)]
  cases hx : xs[p] with
  | none => rw [hx] at h; cases h
  | some q => rw [hx] at h; obtain ⟨a, o'⟩ := q; cases h; exact ⟨a, rfl⟩
theorem get_none {xs : List (Option (Nat × RO))} {ps : List (Option RO)} (e : xs.map (Option.map Prod.snd) = ps) (lp : ps.length = 3) {p : Nat} (hp : p < 3) (h : ps.getD p none = none) : xs[p]? = some none := by
  subst e
  rw [List.length_map] at lp
  rw [List.getD_eq_getElem?_getD, List.getElem?_map, List.getElem?_eq_getElem (by omega)] at h
  rw [List.getElem?_eq_getElem (by omega)]
  cases hx : xs[p] with
  | none => rfl
  | some q => rw [hx] at h; cases h
theorem get_inn {ys : List SlX} {inn : List (List Int)} (e : ys.map (·.l) = inn) (li : inn.length = 3) (hk : ∀ y ∈ ys, y.k = y.l.length) {p : Nat} (hp : p < 3) : ∃ a c, ys[p]? = some ⟨a, c, (inn.getD p []).length, inn.getD p []⟩ := by
  subst e
  rw [List.length_map] at li
  have h1 := hk ys[p] (List.getElem_mem (by omega))
  have e1 : (ys.map (·.l)).getD p [] = ys[p].l := by rw [List.getD_eq_getElem?_getD, List.getElem?_map, List.getElem?_eq_getElem (by omega)]; rfl
  rw [e1, ← h1]
  exact ⟨ys[p].a, ys[p].c, List.getElem?_eq_getElem (by omega)⟩
theorem oV_keep {xs : List (Option (Nat × RO))} {p a : Nat} {o : RO} (h : xs[p]? = some (some (a, o))) (o' : RO) : (xs.map oV).set p (oV (some (a, o'))) = xs.map oV := by
  obtain ⟨hp, e⟩ := List.getElem?_eq_some_iff.1 h
  apply List.ext_getElem (by simp)
  intro i h1 h2
  rw [List.getElem_set]
  split
  · rename_i e2; subst e2; simp [e, oV]
  · rfl
theorem fam_none {xs : List (Option (Nat × RO))} {r p : Nat} (h : xs[p]? = some none) : (xs.map (oA r)).set p emp = xs.map (oA r) := by
  obtain ⟨hp, e⟩ := List.getElem?_eq_some_iff.1 h
  apply List.ext_getElem (by simp)
  intro i h1 h2
  rw [List.getElem_set]
  split
  · rename_i e2; subst e2; simp [e, oA]
  · rfl
theorem ys_set {ys : List SlX} (hk : ∀ y ∈ ys, y.k = y.l.length) (p : Nat) (y' : SlX) (h : y'.k = y'.l.length) : ∀ y ∈ ys.set p y', y.k = y.l.length := fun y hy => by
  rcases List.mem_or_eq_of_mem_set hy with h1 | h1
  · exact hk y h1
  · rw [h1]; exact h
theorem over_t {o : RO} (h : ¬ o.out = 0) : o.over = true := by simp [RO.over, h]
theorem over_f {o : RO} (h : o.out = 0) : o.over = false := by simp [RO.over, h]
section
variable {n p : Nat} {c : CW} {o : RO} {st : Int}
theorem putGo_run (hov : (goO 0 n c.L o).over = false) : putGo n p o c = { c with L := goL 0 n c.L o, ps := c.ps.set p (some (goO 0 n c.L o)) } := by unfold putGo; dsimp only; rw [hov]; rfl
theorem putGo_done (hov : (goO 0 n c.L o).over = true) (hd : (goO 0 n c.L o).out = 1) : putGo n p o c = { c with L := goL 0 n c.L o, ps := c.ps.set p none, inn := c.inn.set p (c.inn.getD p [] ++ [(p : Int) * 4294967296 + c.nx.getD p 0]), count := c.count + 1, most := if c.most < c.count + 1 then c.count + 1 else c.most } := by
  unfold putGo; dsimp only; rw [hov, if_pos rfl, if_pos hd]
theorem putGo_fail (hov : (goO 0 n c.L o).over = true) (hd : ¬ (goO 0 n c.L o).out = 1) : putGo n p o c = { c with L := goL 0 n c.L o, ps := c.ps.set p none } := by
  unfold putGo; dsimp only; rw [hov, if_pos rfl, if_neg hd]
theorem outGo_run (hov : (goO 0 n c.L o).over = false) : outGo n o st c = ({ c with L := goL 0 n c.L o, tk := some (goO 0 n c.L o), steps := st, count := if st = 4 then c.count - 1 else c.count }, false) := by unfold outGo; dsimp only; rw [hov]; rfl
theorem outGo_done (hov : (goO 0 n c.L o).over = true) (hd : (goO 0 n c.L o).out = 1) : outGo n o st c = ({ c with L := goL 0 n c.L o, tk := none, steps := st, taken := c.taken ++ [(goO 0 n c.L o).val] }, false) := by
  unfold outGo; dsimp only; rw [hov, if_pos rfl, if_pos hd]
theorem outGo_none (hov : (goO 0 n c.L o).over = true) (hd : ¬ (goO 0 n c.L o).out = 1) : outGo n o st c = ({ c with L := goL 0 n c.L o, tk := none, steps := st }, true) := by
  unfold outGo; dsimp only; rw [hov, if_pos rfl, if_neg hd]
end

set_option maxRecDepth 8000 in
theorem put_run (q r m n p B : Nat) (c : CW) (hs : List Tk) (f h : Nat) (C : CI n B c hs f h) (hB : B < 99999) (hp : p < 3) (more : Bool) (o : RO) (hps : c.ps.getD p none = some o) : FnS Try.prog 40 [ptr q 0, I64 p, .bool more] [crowdA q r m n c]
      (fun u Bs => u = .tuple #[] ∧ Bs = [crowdA q r m n (putGo n p o c)]) := by
  refine fn_body Try.func40 rfl rfl rfl ?_
  intro W0 R
  simp only [List.zipIdx_cons, List.zipIdx_nil, List.map_cons, List.map_nil, Nat.zero_add, Nat.reduceAdd, List.cons_append, List.nil_append]
  refine g_open (by repeat (first | exact .head | apply Sel.tail)) ?_
  rintro ⟨a1, c1, a2, c2, a3, c3, a6, c6, k6, xs, ys, tk, t⟩ ⟨e1, e2, e3, e4, e5⟩
  dsimp only at e1 e2 e3 e4 e5
  simp only [crL, List.cons_append, List.nil_append]
  have hRI := ci_RI C
  have hcn := ci_cnt C
  have hn1 := C.n1
  have lp := C.lp
  have lin := C.lin
  have ln := C.ln
  have hxl : xs.length = 3 := by rw [← lp, ← e1, List.length_map]
  have hyl : ys.length = 3 := by rw [← lin, ← e2, List.length_map]
  have hnx := C.nx p hp
  have hoi := C.poi p o hp hps
  obtain ⟨a, hx⟩ := get_some e1 lp hp hps
  have hxv : (xs.map oV)[p * 1]? = some (ptr a 0) := by rw [Nat.mul_one]; exact map_at' hx
  have hxw := hxv
  refine g_fo (l := xs.map (oA r)) (i := p) (A := opA a r o) (by repeat (first | exact .head | apply Sel.tail)) (map_at' (f := oA r) hx) ?_
  refine g_seq ?_
  refine g_seq ?_
  refine g_region ?_
  refine gl_v rfl (o_move rfl) ?_
  refine gl_v rfl (o_nil rfl) ?_
  first | refine gl_v rfl (o_fldS rfl) ?_ | refine gl_v rfl (o_fld rfl) ?_
  first | refine gl_v rfl (o_load rfl rfl) ?_ | refine gl_v rfl (o_loadS rfl rfl) ?_ | refine gl_v rfl (o_loadC rfl) ?_
  refine gl_v rfl (o_move rfl) ?_
  refine gl_v rfl (o_idxS rfl rfl (by first | assumption | omega)) ?_
  refine gl_v rfl (o_loadS rfl hxv) ?_
  first | refine gl_v rfl (o_eqlPn rfl rfl) ?_ | refine gl_v rfl (o_eqlnn rfl rfl) ?_
  refine gl_nil ?_
  refine ge_then ?_
  refine g_cond_false (rfl) ?_
  refine g_skip ?_
  refine ge_then ?_
  refine g_seq ?_
  refine g_region ?_
  refine gl_v rfl (o_move rfl) ?_
  refine gl_v rfl (o_nil rfl) ?_
  first | refine gl_v rfl (o_fldS rfl) ?_ | refine gl_v rfl (o_fld rfl) ?_
  first | refine gl_v rfl (o_load rfl rfl) ?_ | refine gl_v rfl (o_loadS rfl rfl) ?_ | refine gl_v rfl (o_loadC rfl) ?_
  refine gl_v rfl (o_move rfl) ?_
  refine gl_v rfl (o_idxS rfl rfl (by first | assumption | omega)) ?_
  refine gl_v rfl (o_loadS rfl hxw) ?_
  refine gl_c rfl (o_call rfl (Step_spec a r m 0 n c.L t o hRI hoi) (by repeat (first | exact .nil | (apply Part.cons; · (repeat (first | exact .head | apply Sel.tail)))))) ?_
  rintro _ R ⟨_, ⟨rfl, rfl⟩, rfl⟩
  try simp only [List.cons_append, List.nil_append]
  refine gl_nil ?_
  refine ge_then ?_
  refine g_cond rfl (fun hc1 => ?_) (fun hc1 => ?_)
  ·
    first | replace hc1 := of_decide_eq_true hc1 | replace hc1 := lt_f hc1 | replace hc1 := le_f hc1 | replace hc1 := dec_f hc1 | replace hc1 := nlt_t hc1 | replace hc1 := nle_t hc1 | replace hc1 := ndec_t hc1 | replace hc1 := ndec_f hc1 | replace hc1 := nn_t hc1 | replace hc1 := nn_f hc1 | skip
    have hov : (goO 0 n c.L o).over = true := over_t hc1
    refine g_seq ?_
    refine g_seq ?_
    refine g_region ?_
    refine gl_v rfl (o_move rfl) ?_
    refine gl_v rfl (o_nil rfl) ?_
    first | refine gl_v rfl (o_fldS rfl) ?_ | refine gl_v rfl (o_fld rfl) ?_
    first | refine gl_v rfl (o_load rfl rfl) ?_ | refine gl_v rfl (o_loadS rfl rfl) ?_ | refine gl_v rfl (o_loadC rfl) ?_
    refine gl_v rfl (o_move rfl) ?_
    refine gl_v rfl (o_idxS rfl rfl (by first | assumption | omega)) ?_
    refine gl_v rfl (o_loadS rfl hxw) ?_
    refine gl_c rfl (o_call rfl (Outcome_spec a r (goO 0 n c.L o)) (by repeat (first | exact .nil | (apply Part.cons; · (repeat (first | exact .head | apply Sel.tail)))))) ?_
    rintro _ R ⟨_, ⟨rfl, rfl⟩, rfl⟩
    try simp only [List.cons_append, List.nil_append]
    refine gl_v rfl (o_eql rfl rfl) ?_
    refine gl_nil ?_
    refine ge_then ?_
    refine g_cond rfl (fun hc2 => ?_) (fun hc2 => ?_)
    ·
      first | replace hc2 := of_decide_eq_true hc2 | replace hc2 := lt_f hc2 | replace hc2 := le_f hc2 | replace hc2 := dec_f hc2 | replace hc2 := nlt_t hc2 | replace hc2 := nle_t hc2 | replace hc2 := ndec_t hc2 | replace hc2 := ndec_f hc2 | replace hc2 := nn_t hc2 | replace hc2 := nn_f hc2 | skip
      have hd : (goO 0 n c.L o).out = 1 := hc2
      refine g_seq ?_
      obtain ⟨ya, yc, hy⟩ := get_inn e2 lin e4 hp
      have hyb := ci_inn C hp
      have hyv : (ys.map iV)[p * 1]? = some (.slice ya (c.inn.getD p []).length yc) := by rw [Nat.mul_one]; exact map_at' hy
      refine g_fo (l := ys.map iA) (i := p) (A := own (.slice ya (c.inn.getD p []).length yc) 28 1 (c.inn.getD p []).length ((c.inn.getD p []).map U64)) (by repeat (first | exact .head | apply Sel.tail)) (map_at' (f := iA) hy) ?_
      refine g_draw [23, 24, 26] [23, 24] [(0, .stab), (1, .stab), (2, .stab), (3, .stab), (4, .stab), (5, .stab), (6, .stab), (7, .stab), (8, .stab), (9, .stab), (10, .stab), (11, .stab), (12, .loc), (13, .loc), (14, .loc), (15, .loc), (16, .loc), (17, .loc), (18, .loc), (19, .loc), (20, .loc), (21, .loc), (22, .loc), (23, .eff), (24, .eff), (25, .loc), (26, .eff)] [cel q 52 [ptr r 0, .slice a1 3 c1, .slice a2 3 c2, .slice a3 3 c3, oV tk, I64 c.steps, .slice a6 k6 c6, I64 c.most, I64 c.count], own (.slice a3 3 c3) 35 1 3 (ys.map iV)] mixed (by kernel_rfl) ?_
      refine go_vs rfl .none rfl (o_move rfl) (To.sat (by repeat (first | exact .nil | exact .done .refl | (apply To.cons; · (repeat (first | exact .head | apply Sel.tail))) | exact .done (by repeat (first | exact .refl | apply Drop.skip))))) ?_
      refine go_vs rfl .none rfl (o_nil rfl) (To.sat (by repeat (first | exact .nil | exact .done .refl | (apply To.cons; · (repeat (first | exact .head | apply Sel.tail))) | exact .done (by repeat (first | exact .refl | apply Drop.skip))))) ?_
      first | refine go_vs rfl .none rfl (o_fldS rfl) (To.sat (by repeat (first | exact .nil | exact .done .refl | (apply To.cons; · (repeat (first | exact .head | apply Sel.tail))) | exact .done (by repeat (first | exact .refl | apply Drop.skip))))) ?_ | refine go_vs rfl .none rfl (o_fld rfl) (To.sat (by repeat (first | exact .nil | exact .done .refl | (apply To.cons; · (repeat (first | exact .head | apply Sel.tail))) | exact .done (by repeat (first | exact .refl | apply Drop.skip))))) ?_
      first | refine go_vs rfl .none rfl (o_load rfl rfl) (To.sat (by repeat (first | exact .nil | exact .done .refl | (apply To.cons; · (repeat (first | exact .head | apply Sel.tail))) | exact .done (by repeat (first | exact .refl | apply Drop.skip))))) ?_ | refine go_vs rfl .none rfl (o_loadS rfl rfl) (To.sat (by repeat (first | exact .nil | exact .done .refl | (apply To.cons; · (repeat (first | exact .head | apply Sel.tail))) | exact .done (by repeat (first | exact .refl | apply Drop.skip))))) ?_ | refine go_vs rfl .none rfl (o_loadC rfl) (To.sat (by repeat (first | exact .nil | exact .done .refl | (apply To.cons; · (repeat (first | exact .head | apply Sel.tail))) | exact .done (by repeat (first | exact .refl | apply Drop.skip))))) ?_
      refine go_vs rfl .none rfl (o_move rfl) (To.sat (by repeat (first | exact .nil | exact .done .refl | (apply To.cons; · (repeat (first | exact .head | apply Sel.tail))) | exact .done (by repeat (first | exact .refl | apply Drop.skip))))) ?_
      refine go_vs rfl .none rfl (o_move rfl) (To.sat (by repeat (first | exact .nil | exact .done .refl | (apply To.cons; · (repeat (first | exact .head | apply Sel.tail))) | exact .done (by repeat (first | exact .refl | apply Drop.skip))))) ?_
      refine go_vs rfl .none rfl (o_nil rfl) (To.sat (by repeat (first | exact .nil | exact .done .refl | (apply To.cons; · (repeat (first | exact .head | apply Sel.tail))) | exact .done (by repeat (first | exact .refl | apply Drop.skip))))) ?_
      first | refine go_vs rfl .none rfl (o_fldS rfl) (To.sat (by repeat (first | exact .nil | exact .done .refl | (apply To.cons; · (repeat (first | exact .head | apply Sel.tail))) | exact .done (by repeat (first | exact .refl | apply Drop.skip))))) ?_ | refine go_vs rfl .none rfl (o_fld rfl) (To.sat (by repeat (first | exact .nil | exact .done .refl | (apply To.cons; · (repeat (first | exact .head | apply Sel.tail))) | exact .done (by repeat (first | exact .refl | apply Drop.skip))))) ?_
      first | refine go_vs rfl .none rfl (o_load rfl rfl) (To.sat (by repeat (first | exact .nil | exact .done .refl | (apply To.cons; · (repeat (first | exact .head | apply Sel.tail))) | exact .done (by repeat (first | exact .refl | apply Drop.skip))))) ?_ | refine go_vs rfl .none rfl (o_loadS rfl rfl) (To.sat (by repeat (first | exact .nil | exact .done .refl | (apply To.cons; · (repeat (first | exact .head | apply Sel.tail))) | exact .done (by repeat (first | exact .refl | apply Drop.skip))))) ?_ | refine go_vs rfl .none rfl (o_loadC rfl) (To.sat (by repeat (first | exact .nil | exact .done .refl | (apply To.cons; · (repeat (first | exact .head | apply Sel.tail))) | exact .done (by repeat (first | exact .refl | apply Drop.skip))))) ?_
      refine go_vs rfl .none rfl (o_move rfl) (To.sat (by repeat (first | exact .nil | exact .done .refl | (apply To.cons; · (repeat (first | exact .head | apply Sel.tail))) | exact .done (by repeat (first | exact .refl | apply Drop.skip))))) ?_
      refine go_vs rfl .none rfl (o_idxS rfl rfl (by first | assumption | omega)) (To.sat (by repeat (first | exact .nil | exact .done .refl | (apply To.cons; · (repeat (first | exact .head | apply Sel.tail))) | exact .done (by repeat (first | exact .refl | apply Drop.skip))))) ?_
      refine go_vs rfl .none rfl (o_loadS rfl hyv) (To.sat (by repeat (first | exact .nil | exact .done .refl | (apply To.cons; · (repeat (first | exact .head | apply Sel.tail))) | exact .done (by repeat (first | exact .refl | apply Drop.skip))))) ?_
      refine go_v rfl .none rfl (o_move rfl) ?_
      refine go_v rfl .none rfl (o_convR (p : Int) (wr_u64 (by omega)) rfl) ?_
      refine go_v rfl .none rfl (o_shl ((p : Int) * 4294967296) (wr_u64 (by show 0 ≤ (p : Int) * 4294967296 ∧ (p : Int) * 4294967296 ≤ _; omega)) rfl rfl (by decide) (by decide)) ?_
      refine go_v rfl .none rfl (o_move rfl) ?_
      refine go_v rfl .none rfl (o_nil rfl) ?_
      first | refine go_v rfl .none rfl (o_fldS rfl) ?_ | refine go_v rfl .none rfl (o_fld rfl) ?_
      first | refine go_v rfl .none rfl (o_load rfl rfl) ?_ | refine go_v rfl .none rfl (o_loadS rfl rfl) ?_ | refine go_v rfl .none rfl (o_loadC rfl) ?_
      refine go_v rfl .none rfl (o_move rfl) ?_
      refine go_v rfl .none rfl (o_idxS rfl rfl (by first | assumption | omega)) ?_
      refine go_v rfl .none rfl (o_loadS rfl (map_at (d := 0) (by omega))) ?_
      refine go_v rfl .none rfl (o_addR ((p : Int) * 4294967296 + c.nx.getD p 0) (wr_u64 (by omega)) rfl rfl) ?_
      first | refine go_n rfl .none rfl (o_buildS1 rfl rfl rfl) ?_ | refine go_n rfl .none rfl (o_buildS1A rfl rfl rfl rfl) ?_ | refine go_n rfl .none rfl (o_buildS rfl rfl rfl rfl) ?_
      rintro _ _ ⟨b87, rfl, rfl⟩
      refine ⟨(fun _ => (To.sat (by repeat (first | exact .nil | exact .done .refl | (apply To.cons; · (repeat (first | exact .head | apply Sel.tail))) | exact .done (by repeat (first | exact .refl | apply Drop.skip)))))), ?_⟩
      refine go_n rfl .none rfl (o_append rfl rfl (by repeat (first | exact .nil | (apply Part.cons; · (repeat (first | exact .head | apply Sel.tail))))) rfl rfl rfl (by omega) (by unfold maxLen; omega)) ?_
      rintro _ _ ⟨a88, c88, rfl, rfl⟩
      rw [show (c.inn.getD p []).map U64 ++ [U64 ((p : Int) * 4294967296 + c.nx.getD p 0)] = (c.inn.getD p [] ++ [(p : Int) * 4294967296 + c.nx.getD p 0]).map U64 by simp]
      refine ⟨(fun _ => (To.sat (by repeat (first | exact .nil | exact .done .refl | (apply To.cons; · (repeat (first | exact .head | apply Sel.tail))) | exact .done (by repeat (first | exact .refl | apply Drop.skip)))))), ?_⟩
      refine go_v rfl .none rfl (o_idxS rfl rfl (by first | assumption | omega)) ?_
      refine go_u rfl .none (o_storeS rfl rfl rfl (by simp; omega)) (fun hG => absurd hG (by decide)) ?_
      rw [Nat.mul_one]
      refine go_nil ?_
      refine ge_imp (fs (i := p) (l := ys.map iA) (A := iA ⟨a88, c88, (c.inn.getD p []).length + 1, c.inn.getD p [] ++ [(p : Int) * 4294967296 + c.nx.getD p 0]⟩) (by repeat (first | exact .head | apply Sel.tail)) (by repeat (first | exact .head | apply Sel.tail)) (by simp; omega)) ?_
      refine ge_then ?_
      refine g_seq ?_
      refine g_region ?_
      refine gl_v rfl (o_move rfl) ?_
      refine gl_v rfl (o_nil rfl) ?_
      first | refine gl_v rfl (o_fldS rfl) ?_ | refine gl_v rfl (o_fld rfl) ?_
      first | refine gl_v rfl (o_load rfl rfl) ?_ | refine gl_v rfl (o_loadS rfl rfl) ?_ | refine gl_v rfl (o_loadC rfl) ?_
      refine gl_v rfl (o_addR (c.count + 1) (wr_i64 (by omega)) rfl rfl) ?_
      refine gl_v rfl (o_nil rfl) ?_
      first | refine gl_v rfl (o_fldS rfl) ?_ | refine gl_v rfl (o_fld rfl) ?_
      first | refine gl_u (o_store rfl rfl rfl rfl) ?_ | refine gl_u (o_storeS rfl rfl rfl (by first | assumption | omega | simp)) ?_
      refine gl_nil ?_
      refine ge_then ?_
      refine g_draw [12] [] [(0, .loc), (1, .loc), (2, .loc), (3, .loc), (4, .loc), (5, .loc), (6, .loc), (7, .loc), (8, .loc), (9, .loc), (10, .loc), (11, .loc), (12, .eff)] [] mixed (by kernel_rfl) ?_
      refine go_v rfl .none rfl (o_move rfl) ?_
      refine go_v rfl .none rfl (o_move rfl) ?_
      refine go_v rfl .none rfl (o_nil rfl) ?_
      first | refine go_v rfl .none rfl (o_fldS rfl) ?_ | refine go_v rfl .none rfl (o_fld rfl) ?_
      first | refine go_v rfl .none rfl (o_load rfl rfl) ?_ | refine go_v rfl .none rfl (o_loadS rfl rfl) ?_ | refine go_v rfl .none rfl (o_loadC rfl) ?_
      refine go_v rfl .none rfl (o_move rfl) ?_
      refine go_v rfl .none rfl (o_nil rfl) ?_
      first | refine go_v rfl .none rfl (o_fldS rfl) ?_ | refine go_v rfl .none rfl (o_fld rfl) ?_
      first | refine go_v rfl .none rfl (o_load rfl rfl) ?_ | refine go_v rfl .none rfl (o_loadS rfl rfl) ?_ | refine go_v rfl .none rfl (o_loadC rfl) ?_
      refine go_v rfl .none rfl (o_max (if c.most < c.count + 1 then c.count + 1 else c.most) rfl rfl rfl) ?_
      refine go_v rfl .none rfl (o_nil rfl) ?_
      first | refine go_v rfl .none rfl (o_fldS rfl) ?_ | refine go_v rfl .none rfl (o_fld rfl) ?_
      first | refine go_u rfl .none (o_store rfl rfl rfl rfl) (fun hG => absurd hG (by decide)) ?_ | refine go_u rfl .none (o_storeS rfl rfl rfl (by first | assumption | omega | simp)) (fun hG => absurd hG (by decide)) ?_
      refine go_nil ?_
      refine ge_then ?_
      refine g_region ?_
      refine gl_v rfl (o_move rfl) ?_
      refine gl_v rfl (o_nil rfl) ?_
      first | refine gl_v rfl (o_fldS rfl) ?_ | refine gl_v rfl (o_fld rfl) ?_
      first | refine gl_v rfl (o_load rfl rfl) ?_ | refine gl_v rfl (o_loadS rfl rfl) ?_ | refine gl_v rfl (o_loadC rfl) ?_
      refine gl_v rfl (o_move rfl) ?_
      refine gl_v rfl (o_idxS rfl rfl (by first | assumption | omega)) ?_
      refine gl_u (o_storeS rfl rfl rfl (by simp; omega)) ?_
      rw [Nat.mul_one]
      refine gl_nil ?_
      rw [putGo_done hov hd]
      refine ret0 (.inr rfl) rfl  _ ⟨rfl, rfl⟩ (crowd_close ⟨a1, c1, a2, c2, a3, c3, a6, c6, k6, xs.set p none, (ys.set p ⟨a88, c88, (c.inn.getD p []).length + 1, c.inn.getD p [] ++ [(p : Int) * 4294967296 + c.nx.getD p 0]⟩), tk, (if o.over then t else tup t)⟩ ⟨by simp only [List.map_set, e1]; rfl, by simp only [List.map_set, e2], e3, ys_set e4 _ _ (by simp), e5⟩ ?_)
      dsimp only [crL]
      simp only [List.map_set, List.cons_append, List.nil_append]
      exact (To.sat (by repeat (first | exact .nil | exact .done .refl | (apply To.cons; · (repeat (first | exact .head | apply Sel.tail))) | exact .done (by repeat (first | exact .refl | apply Drop.skip)))))
    ·
      first | replace hc2 := of_decide_eq_true hc2 | replace hc2 := lt_f hc2 | replace hc2 := le_f hc2 | replace hc2 := dec_f hc2 | replace hc2 := nlt_t hc2 | replace hc2 := nle_t hc2 | replace hc2 := ndec_t hc2 | replace hc2 := ndec_f hc2 | replace hc2 := nn_t hc2 | replace hc2 := nn_f hc2 | skip
      have hd : ¬ (goO 0 n c.L o).out = 1 := hc2
      refine g_skip ?_
      refine ge_then ?_
      refine g_region ?_
      refine gl_v rfl (o_move rfl) ?_
      refine gl_v rfl (o_nil rfl) ?_
      first | refine gl_v rfl (o_fldS rfl) ?_ | refine gl_v rfl (o_fld rfl) ?_
      first | refine gl_v rfl (o_load rfl rfl) ?_ | refine gl_v rfl (o_loadS rfl rfl) ?_ | refine gl_v rfl (o_loadC rfl) ?_
      refine gl_v rfl (o_move rfl) ?_
      refine gl_v rfl (o_idxS rfl rfl (by first | assumption | omega)) ?_
      refine gl_u (o_storeS rfl rfl rfl (by simp; omega)) ?_
      rw [Nat.mul_one]
      refine gl_nil ?_
      rw [putGo_fail hov hd]
      refine ret0 (.inr rfl) rfl  _ ⟨rfl, rfl⟩ (crowd_close ⟨a1, c1, a2, c2, a3, c3, a6, c6, k6, xs.set p none, ys, tk, (if o.over then t else tup t)⟩ ⟨by simp only [List.map_set, e1]; rfl, e2, e3, e4, e5⟩ ?_)
      dsimp only [crL]
      simp only [List.map_set, List.cons_append, List.nil_append]
      exact (To.sat (by repeat (first | exact .nil | exact .done .refl | (apply To.cons; · (repeat (first | exact .head | apply Sel.tail))) | exact .done (by repeat (first | exact .refl | apply Drop.skip)))))
  ·
    first | replace hc1 := of_decide_eq_true hc1 | replace hc1 := lt_f hc1 | replace hc1 := le_f hc1 | replace hc1 := dec_f hc1 | replace hc1 := nlt_t hc1 | replace hc1 := nle_t hc1 | replace hc1 := ndec_t hc1 | replace hc1 := ndec_f hc1 | replace hc1 := nn_t hc1 | replace hc1 := nn_f hc1 | skip
    have hov : (goO 0 n c.L o).over = false := over_f hc1
    refine g_skip ?_
    refine ge_imp (fs (i := p) (l := xs.map (oA r)) (A := opA a r (goO 0 n c.L o)) (by repeat (first | exact .head | apply Sel.tail)) (by repeat (first | exact .head | apply Sel.tail)) (by simp; omega)) ?_
    rw [putGo_run hov]
    refine ret0 (.inr rfl) rfl  _ ⟨rfl, rfl⟩ (crowd_close ⟨a1, c1, a2, c2, a3, c3, a6, c6, k6, xs.set p (some (a, goO 0 n c.L o)), ys, tk, (if o.over then t else tup t)⟩ ⟨by simp only [List.map_set, e1]; rfl, e2, e3, e4, e5⟩ ?_)
    dsimp only [crL]
    simp only [List.map_set, List.cons_append, List.nil_append]
    rw [oV_keep hx]
    exact (To.sat (by repeat (first | exact .nil | exact .done .refl | (apply To.cons; · (repeat (first | exact .head | apply Sel.tail))) | exact .done (by repeat (first | exact .refl | apply Drop.skip)))))

def cNew (p : Nat) (c : CW) : CW := { c with nx := c.nx.set p (c.nx.getD p 0 + 1) }

set_option maxRecDepth 8000 in
theorem put_new (q r m n p B : Nat) (c : CW) (hs : List Tk) (f h : Nat) (C : CI n B c hs f h) (hB : B < 99999) (hp : p < 3) (hps : c.ps.getD p none = none) : FnS Try.prog 40 [ptr q 0, I64 p, .bool true] [crowdA q r m n c]
      (fun u Bs => u = .tuple #[] ∧ Bs = [crowdA q r m n (putGo n p (fresh p (c.nx.getD p 0 + 1)) (cNew p c))]) := by
  refine fn_body Try.func40 rfl rfl rfl ?_
  intro W0 R
  simp only [List.zipIdx_cons, List.zipIdx_nil, List.map_cons, List.map_nil, Nat.zero_add, Nat.reduceAdd, List.cons_append, List.nil_append]
  refine g_open (by repeat (first | exact .head | apply Sel.tail)) ?_
  rintro ⟨a1, c1, a2, c2, a3, c3, a6, c6, k6, xs, ys, tk, t⟩ ⟨e1, e2, e3, e4, e5⟩
  dsimp only at e1 e2 e3 e4 e5
  simp only [crL, List.cons_append, List.nil_append]
  have hRI := ci_RI C
  have hcn := ci_cnt C
  have hn1 := C.n1
  have lp := C.lp
  have lin := C.lin
  have ln := C.ln
  have hxl : xs.length = 3 := by rw [← lp, ← e1, List.length_map]
  have hyl : ys.length = 3 := by rw [← lin, ← e2, List.length_map]
  have hnx := C.nx p hp
  have hx := get_none e1 lp hp hps
  have hxv : (xs.map oV)[p * 1]? = some (.pointer none) := by rw [Nat.mul_one]; exact map_at' hx
  have hoi : OI (fresh p (c.nx.getD p 0 + 1)) := ⟨Nat.zero_le _, by show 0 ≤ (p : Int) * 4294967296 + _; omega, by show (p : Int) * 4294967296 + _ ≤ 18446744073709551615; omega, Int.le_refl 0, (show (0 : Int) ≤ 18446744073709551615 by decide), Int.le_refl 0, (show (0 : Int) ≤ 18446744073709551615 by decide)⟩
  have hxw : ∀ v, ((xs.map oV).set p v)[p * 1]? = some v := fun v => by rw [Nat.mul_one]; simp [hxl, hp]
  rw [← fam_none (r := r) hx]
  refine g_seq ?_
  refine g_seq ?_
  refine g_region ?_
  refine gl_v rfl (o_move rfl) ?_
  refine gl_v rfl (o_nil rfl) ?_
  first | refine gl_v rfl (o_fldS rfl) ?_ | refine gl_v rfl (o_fld rfl) ?_
  first | refine gl_v rfl (o_load rfl rfl) ?_ | refine gl_v rfl (o_loadS rfl rfl) ?_ | refine gl_v rfl (o_loadC rfl) ?_
  refine gl_v rfl (o_move rfl) ?_
  refine gl_v rfl (o_idxS rfl rfl (by first | assumption | omega)) ?_
  refine gl_v rfl (o_loadS rfl hxv) ?_
  first | refine gl_v rfl (o_eqlPn rfl rfl) ?_ | refine gl_v rfl (o_eqlnn rfl rfl) ?_
  refine gl_nil ?_
  refine ge_then ?_
  refine g_cond_true (rfl) ?_
  refine g_seq ?_
  refine g_seq ?_
  refine g_region ?_
  refine gl_v rfl (o_move rfl) ?_
  refine gl_v rfl (o_not rfl) ?_
  refine gl_nil ?_
  refine ge_then ?_
  refine g_cond_false (rfl) ?_
  refine g_skip ?_
  refine ge_then ?_
  refine g_seq ?_
  refine g_region ?_
  refine gl_v rfl (o_move rfl) ?_
  refine gl_v rfl (o_nil rfl) ?_
  first | refine gl_v rfl (o_fldS rfl) ?_ | refine gl_v rfl (o_fld rfl) ?_
  first | refine gl_v rfl (o_load rfl rfl) ?_ | refine gl_v rfl (o_loadS rfl rfl) ?_ | refine gl_v rfl (o_loadC rfl) ?_
  refine gl_v rfl (o_move rfl) ?_
  refine gl_v rfl (o_idxS rfl rfl (by first | assumption | omega)) ?_
  refine gl_v rfl (o_loadS rfl (map_at (d := 0) (by omega))) ?_
  refine gl_v rfl (o_addR (c.nx.getD p 0 + 1) (wr_u64 (by omega)) rfl rfl) ?_
  refine gl_v rfl (o_idxS rfl rfl (by first | assumption | omega)) ?_
  refine gl_u (o_storeS rfl rfl rfl (by simp; omega)) ?_
  rw [map_set1]
  refine gl_nil ?_
  refine ge_then ?_
  refine g_draw [20, 22] [20] [(0, .stab), (1, .stab), (2, .stab), (3, .stab), (4, .stab), (5, .loc), (6, .loc), (7, .loc), (8, .loc), (9, .loc), (10, .loc), (11, .loc), (12, .loc), (13, .loc), (14, .loc), (15, .loc), (16, .loc), (17, .loc), (18, .loc), (19, .loc), (20, .eff), (21, .loc), (22, .eff)] [cel q 52 [ptr r 0, .slice a1 3 c1, .slice a2 3 c2, .slice a3 3 c3, oV tk, I64 c.steps, .slice a6 k6 c6, I64 c.most, I64 c.count]] mixed (by kernel_rfl) ?_
  refine go_vs rfl .none rfl (o_move rfl) (To.sat (by repeat (first | exact .nil | exact .done .refl | (apply To.cons; · (repeat (first | exact .head | apply Sel.tail))) | exact .done (by repeat (first | exact .refl | apply Drop.skip))))) ?_
  refine go_vs rfl .none rfl (o_nil rfl) (To.sat (by repeat (first | exact .nil | exact .done .refl | (apply To.cons; · (repeat (first | exact .head | apply Sel.tail))) | exact .done (by repeat (first | exact .refl | apply Drop.skip))))) ?_
  first | refine go_vs rfl .none rfl (o_fldS rfl) (To.sat (by repeat (first | exact .nil | exact .done .refl | (apply To.cons; · (repeat (first | exact .head | apply Sel.tail))) | exact .done (by repeat (first | exact .refl | apply Drop.skip))))) ?_ | refine go_vs rfl .none rfl (o_fld rfl) (To.sat (by repeat (first | exact .nil | exact .done .refl | (apply To.cons; · (repeat (first | exact .head | apply Sel.tail))) | exact .done (by repeat (first | exact .refl | apply Drop.skip))))) ?_
  first | refine go_vs rfl .none rfl (o_load rfl rfl) (To.sat (by repeat (first | exact .nil | exact .done .refl | (apply To.cons; · (repeat (first | exact .head | apply Sel.tail))) | exact .done (by repeat (first | exact .refl | apply Drop.skip))))) ?_ | refine go_vs rfl .none rfl (o_loadS rfl rfl) (To.sat (by repeat (first | exact .nil | exact .done .refl | (apply To.cons; · (repeat (first | exact .head | apply Sel.tail))) | exact .done (by repeat (first | exact .refl | apply Drop.skip))))) ?_ | refine go_vs rfl .none rfl (o_loadC rfl) (To.sat (by repeat (first | exact .nil | exact .done .refl | (apply To.cons; · (repeat (first | exact .head | apply Sel.tail))) | exact .done (by repeat (first | exact .refl | apply Drop.skip))))) ?_
  refine go_vs rfl .none rfl (o_move rfl) (To.sat (by repeat (first | exact .nil | exact .done .refl | (apply To.cons; · (repeat (first | exact .head | apply Sel.tail))) | exact .done (by repeat (first | exact .refl | apply Drop.skip))))) ?_
  refine go_v rfl .none rfl (o_move rfl) ?_
  refine go_v rfl .none rfl (o_nil rfl) ?_
  first | refine go_v rfl .none rfl (o_fldS rfl) ?_ | refine go_v rfl .none rfl (o_fld rfl) ?_
  first | refine go_v rfl .none rfl (o_load rfl rfl) ?_ | refine go_v rfl .none rfl (o_loadS rfl rfl) ?_ | refine go_v rfl .none rfl (o_loadC rfl) ?_
  refine go_v rfl .none rfl (o_move rfl) ?_
  refine go_v rfl .none rfl (o_convR (p : Int) (wr_u64 (by omega)) rfl) ?_
  refine go_v rfl .none rfl (o_shl ((p : Int) * 4294967296) (wr_u64 (by show 0 ≤ (p : Int) * 4294967296 ∧ (p : Int) * 4294967296 ≤ _; omega)) rfl rfl (by decide) (by decide)) ?_
  refine go_v rfl .none rfl (o_move rfl) ?_
  refine go_v rfl .none rfl (o_nil rfl) ?_
  first | refine go_v rfl .none rfl (o_fldS rfl) ?_ | refine go_v rfl .none rfl (o_fld rfl) ?_
  first | refine go_v rfl .none rfl (o_load rfl rfl) ?_ | refine go_v rfl .none rfl (o_loadS rfl rfl) ?_ | refine go_v rfl .none rfl (o_loadC rfl) ?_
  refine go_v rfl .none rfl (o_move rfl) ?_
  refine go_v rfl .none rfl (o_idxS rfl rfl (by first | assumption | omega)) ?_
  refine go_v rfl .none rfl (o_loadS rfl (map_at (d := 0) (by simp; omega))) ?_
  refine go_v rfl .none rfl (o_addR ((p : Int) * 4294967296 + (c.nx.getD p 0 + 1)) (by rw [getD_set _ _ _ _ _ (by omega), if_pos rfl]; exact wr_u64 (by omega)) rfl rfl) ?_
  refine go_c rfl .none rfl (o_call rfl (Put_spec r ((p : Int) * 4294967296 + (c.nx.getD p 0 + 1))) (by repeat (first | exact .nil | (apply Part.cons; · (repeat (first | exact .head | apply Sel.tail)))))) ?_
  rintro _ R ⟨_, ⟨a, rfl, rfl⟩, rfl⟩
  try simp only [List.cons_append, List.nil_append]
  refine ⟨(fun _ => (To.sat (by repeat (first | exact .nil | exact .done .refl | (apply To.cons; · (repeat (first | exact .head | apply Sel.tail))) | exact .done (by repeat (first | exact .refl | apply Drop.skip)))))), ?_⟩
  refine go_v rfl .none rfl (o_idxS rfl rfl (by first | assumption | omega)) ?_
  refine go_u rfl .none (o_storeS rfl rfl rfl (by simp; omega)) (fun hG => absurd hG (by decide)) ?_
  rw [Nat.mul_one]
  refine go_imp (fs (i := p) (l := xs.map (oA r)) (A := opA a r (fresh p (c.nx.getD p 0 + 1))) (by repeat (first | exact .head | apply Sel.tail)) (by repeat (first | exact .head | apply Sel.tail)) (by simp; omega)) ?_
  refine go_nil ?_
  refine ge_then ?_
  refine g_seq ?_
  refine g_fo (l := (xs.map (oA r)).set p (opA a r (fresh p (c.nx.getD p 0 + 1)))) (i := p) (A := opA a r (fresh p (c.nx.getD p 0 + 1))) (by repeat (first | exact .head | apply Sel.tail)) (by simp [hxl, hp]) ?_
  rw [List.set_set]
  refine g_region ?_
  refine gl_v rfl (o_move rfl) ?_
  refine gl_v rfl (o_nil rfl) ?_
  first | refine gl_v rfl (o_fldS rfl) ?_ | refine gl_v rfl (o_fld rfl) ?_
  first | refine gl_v rfl (o_load rfl rfl) ?_ | refine gl_v rfl (o_loadS rfl rfl) ?_ | refine gl_v rfl (o_loadC rfl) ?_
  refine gl_v rfl (o_move rfl) ?_
  refine gl_v rfl (o_idxS rfl rfl (by first | assumption | omega)) ?_
  refine gl_v rfl (o_loadS rfl (hxw _)) ?_
  refine gl_c rfl (o_call rfl (Step_spec a r m 0 n c.L t (fresh p (c.nx.getD p 0 + 1)) hRI hoi) (by repeat (first | exact .nil | (apply Part.cons; · (repeat (first | exact .head | apply Sel.tail)))))) ?_
  rintro _ R ⟨_, ⟨rfl, rfl⟩, rfl⟩
  try simp only [List.cons_append, List.nil_append]
  refine gl_nil ?_
  refine ge_then ?_
  refine g_cond rfl (fun hc1 => ?_) (fun hc1 => ?_)
  ·
    first | replace hc1 := of_decide_eq_true hc1 | replace hc1 := lt_f hc1 | replace hc1 := le_f hc1 | replace hc1 := dec_f hc1 | replace hc1 := nlt_t hc1 | replace hc1 := nle_t hc1 | replace hc1 := ndec_t hc1 | replace hc1 := ndec_f hc1 | replace hc1 := nn_t hc1 | replace hc1 := nn_f hc1 | skip
    have hov : (goO 0 n c.L (fresh p (c.nx.getD p 0 + 1))).over = true := over_t hc1
    refine g_seq ?_
    refine g_seq ?_
    refine g_region ?_
    refine gl_v rfl (o_move rfl) ?_
    refine gl_v rfl (o_nil rfl) ?_
    first | refine gl_v rfl (o_fldS rfl) ?_ | refine gl_v rfl (o_fld rfl) ?_
    first | refine gl_v rfl (o_load rfl rfl) ?_ | refine gl_v rfl (o_loadS rfl rfl) ?_ | refine gl_v rfl (o_loadC rfl) ?_
    refine gl_v rfl (o_move rfl) ?_
    refine gl_v rfl (o_idxS rfl rfl (by first | assumption | omega)) ?_
    refine gl_v rfl (o_loadS rfl (hxw _)) ?_
    refine gl_c rfl (o_call rfl (Outcome_spec a r (goO 0 n c.L (fresh p (c.nx.getD p 0 + 1)))) (by repeat (first | exact .nil | (apply Part.cons; · (repeat (first | exact .head | apply Sel.tail)))))) ?_
    rintro _ R ⟨_, ⟨rfl, rfl⟩, rfl⟩
    try simp only [List.cons_append, List.nil_append]
    refine gl_v rfl (o_eql rfl rfl) ?_
    refine gl_nil ?_
    refine ge_then ?_
    refine g_cond rfl (fun hc2 => ?_) (fun hc2 => ?_)
    ·
      first | replace hc2 := of_decide_eq_true hc2 | replace hc2 := lt_f hc2 | replace hc2 := le_f hc2 | replace hc2 := dec_f hc2 | replace hc2 := nlt_t hc2 | replace hc2 := nle_t hc2 | replace hc2 := ndec_t hc2 | replace hc2 := ndec_f hc2 | replace hc2 := nn_t hc2 | replace hc2 := nn_f hc2 | skip
      have hd : (goO 0 n c.L (fresh p (c.nx.getD p 0 + 1))).out = 1 := hc2
      refine g_seq ?_
      obtain ⟨ya, yc, hy⟩ := get_inn e2 lin e4 hp
      have hyb := ci_inn C hp
      have hyv : (ys.map iV)[p * 1]? = some (.slice ya (c.inn.getD p []).length yc) := by rw [Nat.mul_one]; exact map_at' hy
      refine g_fo (l := ys.map iA) (i := p) (A := own (.slice ya (c.inn.getD p []).length yc) 28 1 (c.inn.getD p []).length ((c.inn.getD p []).map U64)) (by repeat (first | exact .head | apply Sel.tail)) (map_at' (f := iA) hy) ?_
      refine g_draw [23, 24, 26] [23, 24] [(0, .stab), (1, .stab), (2, .stab), (3, .stab), (4, .stab), (5, .stab), (6, .stab), (7, .stab), (8, .stab), (9, .stab), (10, .stab), (11, .stab), (12, .loc), (13, .loc), (14, .loc), (15, .loc), (16, .loc), (17, .loc), (18, .loc), (19, .loc), (20, .loc), (21, .loc), (22, .loc), (23, .eff), (24, .eff), (25, .loc), (26, .eff)] [cel q 52 [ptr r 0, .slice a1 3 c1, .slice a2 3 c2, .slice a3 3 c3, oV tk, I64 c.steps, .slice a6 k6 c6, I64 c.most, I64 c.count], own (.slice a3 3 c3) 35 1 3 (ys.map iV)] mixed (by kernel_rfl) ?_
      refine go_vs rfl .none rfl (o_move rfl) (To.sat (by repeat (first | exact .nil | exact .done .refl | (apply To.cons; · (repeat (first | exact .head | apply Sel.tail))) | exact .done (by repeat (first | exact .refl | apply Drop.skip))))) ?_
      refine go_vs rfl .none rfl (o_nil rfl) (To.sat (by repeat (first | exact .nil | exact .done .refl | (apply To.cons; · (repeat (first | exact .head | apply Sel.tail))) | exact .done (by repeat (first | exact .refl | apply Drop.skip))))) ?_
      first | refine go_vs rfl .none rfl (o_fldS rfl) (To.sat (by repeat (first | exact .nil | exact .done .refl | (apply To.cons; · (repeat (first | exact .head | apply Sel.tail))) | exact .done (by repeat (first | exact .refl | apply Drop.skip))))) ?_ | refine go_vs rfl .none rfl (o_fld rfl) (To.sat (by repeat (first | exact .nil | exact .done .refl | (apply To.cons; · (repeat (first | exact .head | apply Sel.tail))) | exact .done (by repeat (first | exact .refl | apply Drop.skip))))) ?_
      first | refine go_vs rfl .none rfl (o_load rfl rfl) (To.sat (by repeat (first | exact .nil | exact .done .refl | (apply To.cons; · (repeat (first | exact .head | apply Sel.tail))) | exact .done (by repeat (first | exact .refl | apply Drop.skip))))) ?_ | refine go_vs rfl .none rfl (o_loadS rfl rfl) (To.sat (by repeat (first | exact .nil | exact .done .refl | (apply To.cons; · (repeat (first | exact .head | apply Sel.tail))) | exact .done (by repeat (first | exact .refl | apply Drop.skip))))) ?_ | refine go_vs rfl .none rfl (o_loadC rfl) (To.sat (by repeat (first | exact .nil | exact .done .refl | (apply To.cons; · (repeat (first | exact .head | apply Sel.tail))) | exact .done (by repeat (first | exact .refl | apply Drop.skip))))) ?_
      refine go_vs rfl .none rfl (o_move rfl) (To.sat (by repeat (first | exact .nil | exact .done .refl | (apply To.cons; · (repeat (first | exact .head | apply Sel.tail))) | exact .done (by repeat (first | exact .refl | apply Drop.skip))))) ?_
      refine go_vs rfl .none rfl (o_move rfl) (To.sat (by repeat (first | exact .nil | exact .done .refl | (apply To.cons; · (repeat (first | exact .head | apply Sel.tail))) | exact .done (by repeat (first | exact .refl | apply Drop.skip))))) ?_
      refine go_vs rfl .none rfl (o_nil rfl) (To.sat (by repeat (first | exact .nil | exact .done .refl | (apply To.cons; · (repeat (first | exact .head | apply Sel.tail))) | exact .done (by repeat (first | exact .refl | apply Drop.skip))))) ?_
      first | refine go_vs rfl .none rfl (o_fldS rfl) (To.sat (by repeat (first | exact .nil | exact .done .refl | (apply To.cons; · (repeat (first | exact .head | apply Sel.tail))) | exact .done (by repeat (first | exact .refl | apply Drop.skip))))) ?_ | refine go_vs rfl .none rfl (o_fld rfl) (To.sat (by repeat (first | exact .nil | exact .done .refl | (apply To.cons; · (repeat (first | exact .head | apply Sel.tail))) | exact .done (by repeat (first | exact .refl | apply Drop.skip))))) ?_
      first | refine go_vs rfl .none rfl (o_load rfl rfl) (To.sat (by repeat (first | exact .nil | exact .done .refl | (apply To.cons; · (repeat (first | exact .head | apply Sel.tail))) | exact .done (by repeat (first | exact .refl | apply Drop.skip))))) ?_ | refine go_vs rfl .none rfl (o_loadS rfl rfl) (To.sat (by repeat (first | exact .nil | exact .done .refl | (apply To.cons; · (repeat (first | exact .head | apply Sel.tail))) | exact .done (by repeat (first | exact .refl | apply Drop.skip))))) ?_ | refine go_vs rfl .none rfl (o_loadC rfl) (To.sat (by repeat (first | exact .nil | exact .done .refl | (apply To.cons; · (repeat (first | exact .head | apply Sel.tail))) | exact .done (by repeat (first | exact .refl | apply Drop.skip))))) ?_
      refine go_vs rfl .none rfl (o_move rfl) (To.sat (by repeat (first | exact .nil | exact .done .refl | (apply To.cons; · (repeat (first | exact .head | apply Sel.tail))) | exact .done (by repeat (first | exact .refl | apply Drop.skip))))) ?_
      refine go_vs rfl .none rfl (o_idxS rfl rfl (by first | assumption | omega)) (To.sat (by repeat (first | exact .nil | exact .done .refl | (apply To.cons; · (repeat (first | exact .head | apply Sel.tail))) | exact .done (by repeat (first | exact .refl | apply Drop.skip))))) ?_
      refine go_vs rfl .none rfl (o_loadS rfl hyv) (To.sat (by repeat (first | exact .nil | exact .done .refl | (apply To.cons; · (repeat (first | exact .head | apply Sel.tail))) | exact .done (by repeat (first | exact .refl | apply Drop.skip))))) ?_
      refine go_v rfl .none rfl (o_move rfl) ?_
      refine go_v rfl .none rfl (o_convR (p : Int) (wr_u64 (by omega)) rfl) ?_
      refine go_v rfl .none rfl (o_shl ((p : Int) * 4294967296) (wr_u64 (by show 0 ≤ (p : Int) * 4294967296 ∧ (p : Int) * 4294967296 ≤ _; omega)) rfl rfl (by decide) (by decide)) ?_
      refine go_v rfl .none rfl (o_move rfl) ?_
      refine go_v rfl .none rfl (o_nil rfl) ?_
      first | refine go_v rfl .none rfl (o_fldS rfl) ?_ | refine go_v rfl .none rfl (o_fld rfl) ?_
      first | refine go_v rfl .none rfl (o_load rfl rfl) ?_ | refine go_v rfl .none rfl (o_loadS rfl rfl) ?_ | refine go_v rfl .none rfl (o_loadC rfl) ?_
      refine go_v rfl .none rfl (o_move rfl) ?_
      refine go_v rfl .none rfl (o_idxS rfl rfl (by first | assumption | omega)) ?_
      refine go_v rfl .none rfl (o_loadS rfl (map_at (d := 0) (by simp; omega))) ?_
      refine go_v rfl .none rfl (o_addR ((p : Int) * 4294967296 + (c.nx.getD p 0 + 1)) (by rw [getD_set _ _ _ _ _ (by omega), if_pos rfl]; exact wr_u64 (by omega)) rfl rfl) ?_
      first | refine go_n rfl .none rfl (o_buildS1 rfl rfl rfl) ?_ | refine go_n rfl .none rfl (o_buildS1A rfl rfl rfl rfl) ?_ | refine go_n rfl .none rfl (o_buildS rfl rfl rfl rfl) ?_
      rintro _ _ ⟨b87, rfl, rfl⟩
      refine ⟨(fun _ => (To.sat (by repeat (first | exact .nil | exact .done .refl | (apply To.cons; · (repeat (first | exact .head | apply Sel.tail))) | exact .done (by repeat (first | exact .refl | apply Drop.skip)))))), ?_⟩
      refine go_n rfl .none rfl (o_append rfl rfl (by repeat (first | exact .nil | (apply Part.cons; · (repeat (first | exact .head | apply Sel.tail))))) rfl rfl rfl (by omega) (by unfold maxLen; omega)) ?_
      rintro _ _ ⟨a88, c88, rfl, rfl⟩
      rw [show (c.inn.getD p []).map U64 ++ [U64 ((p : Int) * 4294967296 + (c.nx.getD p 0 + 1))] = (c.inn.getD p [] ++ [(p : Int) * 4294967296 + (c.nx.getD p 0 + 1)]).map U64 by simp]
      refine ⟨(fun _ => (To.sat (by repeat (first | exact .nil | exact .done .refl | (apply To.cons; · (repeat (first | exact .head | apply Sel.tail))) | exact .done (by repeat (first | exact .refl | apply Drop.skip)))))), ?_⟩
      refine go_v rfl .none rfl (o_idxS rfl rfl (by first | assumption | omega)) ?_
      refine go_u rfl .none (o_storeS rfl rfl rfl (by simp; omega)) (fun hG => absurd hG (by decide)) ?_
      rw [Nat.mul_one]
      refine go_nil ?_
      refine ge_imp (fs (i := p) (l := ys.map iA) (A := iA ⟨a88, c88, (c.inn.getD p []).length + 1, c.inn.getD p [] ++ [(p : Int) * 4294967296 + (c.nx.getD p 0 + 1)]⟩) (by repeat (first | exact .head | apply Sel.tail)) (by repeat (first | exact .head | apply Sel.tail)) (by simp; omega)) ?_
      refine ge_then ?_
      refine g_seq ?_
      refine g_region ?_
      refine gl_v rfl (o_move rfl) ?_
      refine gl_v rfl (o_nil rfl) ?_
      first | refine gl_v rfl (o_fldS rfl) ?_ | refine gl_v rfl (o_fld rfl) ?_
      first | refine gl_v rfl (o_load rfl rfl) ?_ | refine gl_v rfl (o_loadS rfl rfl) ?_ | refine gl_v rfl (o_loadC rfl) ?_
      refine gl_v rfl (o_addR (c.count + 1) (wr_i64 (by omega)) rfl rfl) ?_
      refine gl_v rfl (o_nil rfl) ?_
      first | refine gl_v rfl (o_fldS rfl) ?_ | refine gl_v rfl (o_fld rfl) ?_
      first | refine gl_u (o_store rfl rfl rfl rfl) ?_ | refine gl_u (o_storeS rfl rfl rfl (by first | assumption | omega | simp)) ?_
      refine gl_nil ?_
      refine ge_then ?_
      refine g_draw [12] [] [(0, .loc), (1, .loc), (2, .loc), (3, .loc), (4, .loc), (5, .loc), (6, .loc), (7, .loc), (8, .loc), (9, .loc), (10, .loc), (11, .loc), (12, .eff)] [] mixed (by kernel_rfl) ?_
      refine go_v rfl .none rfl (o_move rfl) ?_
      refine go_v rfl .none rfl (o_move rfl) ?_
      refine go_v rfl .none rfl (o_nil rfl) ?_
      first | refine go_v rfl .none rfl (o_fldS rfl) ?_ | refine go_v rfl .none rfl (o_fld rfl) ?_
      first | refine go_v rfl .none rfl (o_load rfl rfl) ?_ | refine go_v rfl .none rfl (o_loadS rfl rfl) ?_ | refine go_v rfl .none rfl (o_loadC rfl) ?_
      refine go_v rfl .none rfl (o_move rfl) ?_
      refine go_v rfl .none rfl (o_nil rfl) ?_
      first | refine go_v rfl .none rfl (o_fldS rfl) ?_ | refine go_v rfl .none rfl (o_fld rfl) ?_
      first | refine go_v rfl .none rfl (o_load rfl rfl) ?_ | refine go_v rfl .none rfl (o_loadS rfl rfl) ?_ | refine go_v rfl .none rfl (o_loadC rfl) ?_
      refine go_v rfl .none rfl (o_max (if c.most < c.count + 1 then c.count + 1 else c.most) rfl rfl rfl) ?_
      refine go_v rfl .none rfl (o_nil rfl) ?_
      first | refine go_v rfl .none rfl (o_fldS rfl) ?_ | refine go_v rfl .none rfl (o_fld rfl) ?_
      first | refine go_u rfl .none (o_store rfl rfl rfl rfl) (fun hG => absurd hG (by decide)) ?_ | refine go_u rfl .none (o_storeS rfl rfl rfl (by first | assumption | omega | simp)) (fun hG => absurd hG (by decide)) ?_
      refine go_nil ?_
      refine ge_then ?_
      refine g_region ?_
      refine gl_v rfl (o_move rfl) ?_
      refine gl_v rfl (o_nil rfl) ?_
      first | refine gl_v rfl (o_fldS rfl) ?_ | refine gl_v rfl (o_fld rfl) ?_
      first | refine gl_v rfl (o_load rfl rfl) ?_ | refine gl_v rfl (o_loadS rfl rfl) ?_ | refine gl_v rfl (o_loadC rfl) ?_
      refine gl_v rfl (o_move rfl) ?_
      refine gl_v rfl (o_idxS rfl rfl (by first | assumption | omega)) ?_
      refine gl_u (o_storeS rfl rfl rfl (by simp; omega)) ?_
      rw [Nat.mul_one, List.set_set]
      refine gl_nil ?_
      rw [putGo_done (c := cNew p c) (o := fresh p (c.nx.getD p 0 + 1)) hov hd]
      refine ret0 (.inr rfl) rfl  _ ⟨rfl, rfl⟩ (crowd_close ⟨a1, c1, a2, c2, a3, c3, a6, c6, k6, xs.set p none, (ys.set p ⟨a88, c88, (c.inn.getD p []).length + 1, c.inn.getD p [] ++ [(p : Int) * 4294967296 + (c.nx.getD p 0 + 1)]⟩), tk, (if (fresh p (c.nx.getD p 0 + 1)).over then t else tup t)⟩ ⟨(by simp only [cNew, List.map_set, e1]; rfl), by simp only [cNew, List.map_set, e2]; rw [getD_set _ _ _ _ _ (by omega), if_pos rfl], e3, ys_set e4 _ _ (by simp), e5⟩ ?_)
      dsimp only [crL, cNew]
      simp only [List.map_set (f := oV), List.map_set (f := oA r), List.map_set (f := iV), List.map_set (f := iA), List.cons_append, List.nil_append]
      exact (To.sat (by repeat (first | exact .nil | exact .done .refl | (apply To.cons; · (repeat (first | exact .head | apply Sel.tail))) | exact .done (by repeat (first | exact .refl | apply Drop.skip)))))
    ·
      first | replace hc2 := of_decide_eq_true hc2 | replace hc2 := lt_f hc2 | replace hc2 := le_f hc2 | replace hc2 := dec_f hc2 | replace hc2 := nlt_t hc2 | replace hc2 := nle_t hc2 | replace hc2 := ndec_t hc2 | replace hc2 := ndec_f hc2 | replace hc2 := nn_t hc2 | replace hc2 := nn_f hc2 | skip
      have hd : ¬ (goO 0 n c.L (fresh p (c.nx.getD p 0 + 1))).out = 1 := hc2
      refine g_skip ?_
      refine ge_then ?_
      refine g_region ?_
      refine gl_v rfl (o_move rfl) ?_
      refine gl_v rfl (o_nil rfl) ?_
      first | refine gl_v rfl (o_fldS rfl) ?_ | refine gl_v rfl (o_fld rfl) ?_
      first | refine gl_v rfl (o_load rfl rfl) ?_ | refine gl_v rfl (o_loadS rfl rfl) ?_ | refine gl_v rfl (o_loadC rfl) ?_
      refine gl_v rfl (o_move rfl) ?_
      refine gl_v rfl (o_idxS rfl rfl (by first | assumption | omega)) ?_
      refine gl_u (o_storeS rfl rfl rfl (by simp; omega)) ?_
      rw [Nat.mul_one, List.set_set]
      refine gl_nil ?_
      rw [putGo_fail (c := cNew p c) (o := fresh p (c.nx.getD p 0 + 1)) hov hd]
      refine ret0 (.inr rfl) rfl  _ ⟨rfl, rfl⟩ (crowd_close ⟨a1, c1, a2, c2, a3, c3, a6, c6, k6, xs.set p none, ys, tk, (if (fresh p (c.nx.getD p 0 + 1)).over then t else tup t)⟩ ⟨(by simp only [cNew, List.map_set, e1]; rfl), e2, e3, e4, e5⟩ ?_)
      dsimp only [crL, cNew]
      simp only [List.map_set (f := oV), List.map_set (f := oA r), List.map_set (f := iV), List.map_set (f := iA), List.cons_append, List.nil_append]
      exact (To.sat (by repeat (first | exact .nil | exact .done .refl | (apply To.cons; · (repeat (first | exact .head | apply Sel.tail))) | exact .done (by repeat (first | exact .refl | apply Drop.skip)))))
  ·
    first | replace hc1 := of_decide_eq_true hc1 | replace hc1 := lt_f hc1 | replace hc1 := le_f hc1 | replace hc1 := dec_f hc1 | replace hc1 := nlt_t hc1 | replace hc1 := nle_t hc1 | replace hc1 := ndec_t hc1 | replace hc1 := ndec_f hc1 | replace hc1 := nn_t hc1 | replace hc1 := nn_f hc1 | skip
    have hov : (goO 0 n c.L (fresh p (c.nx.getD p 0 + 1))).over = false := over_f hc1
    refine g_skip ?_
    refine ge_imp (fs (i := p) (l := xs.map (oA r)) (A := opA a r (goO 0 n c.L (fresh p (c.nx.getD p 0 + 1)))) (by repeat (first | exact .head | apply Sel.tail)) (by repeat (first | exact .head | apply Sel.tail)) (by simp; omega)) ?_
    rw [putGo_run (c := cNew p c) (o := fresh p (c.nx.getD p 0 + 1)) hov]
    refine ret0 (.inr rfl) rfl  _ ⟨rfl, rfl⟩ (crowd_close ⟨a1, c1, a2, c2, a3, c3, a6, c6, k6, xs.set p (some (a, goO 0 n c.L (fresh p (c.nx.getD p 0 + 1)))), ys, tk, (if (fresh p (c.nx.getD p 0 + 1)).over then t else tup t)⟩ ⟨(by simp only [cNew, List.map_set, e1]; rfl), e2, e3, e4, e5⟩ ?_)
    dsimp only [crL, cNew]
    simp only [List.map_set (f := oV), List.map_set (f := oA r), List.map_set (f := iV), List.map_set (f := iA), List.cons_append, List.nil_append]
    exact (To.sat (by repeat (first | exact .nil | exact .done .refl | (apply To.cons; · (repeat (first | exact .head | apply Sel.tail))) | exact .done (by repeat (first | exact .refl | apply Drop.skip)))))

set_option maxRecDepth 8000 in
theorem put_idle (q r m n p B : Nat) (c : CW) (hs : List Tk) (f h : Nat) (C : CI n B c hs f h) (hB : B < 99999) (hp : p < 3) (hps : c.ps.getD p none = none) : FnS Try.prog 40 [ptr q 0, I64 p, .bool false] [crowdA q r m n c]
      (fun u Bs => u = .tuple #[] ∧ Bs = [crowdA q r m n c]) := by
  refine fn_body Try.func40 rfl rfl rfl ?_
  intro W0 R
  simp only [List.zipIdx_cons, List.zipIdx_nil, List.map_cons, List.map_nil, Nat.zero_add, Nat.reduceAdd, List.cons_append, List.nil_append]
  refine g_open (by repeat (first | exact .head | apply Sel.tail)) ?_
  rintro ⟨a1, c1, a2, c2, a3, c3, a6, c6, k6, xs, ys, tk, t⟩ ⟨e1, e2, e3, e4, e5⟩
  dsimp only at e1 e2 e3 e4 e5
  simp only [crL, List.cons_append, List.nil_append]
  have hRI := ci_RI C
  have hcn := ci_cnt C
  have hn1 := C.n1
  have lp := C.lp
  have lin := C.lin
  have ln := C.ln
  have hxl : xs.length = 3 := by rw [← lp, ← e1, List.length_map]
  have hyl : ys.length = 3 := by rw [← lin, ← e2, List.length_map]
  have hx := get_none e1 lp hp hps
  have hxv : (xs.map oV)[p * 1]? = some (.pointer none) := by rw [Nat.mul_one]; exact map_at' hx
  refine g_seq ?_
  refine g_seq ?_
  refine g_region ?_
  refine gl_v rfl (o_move rfl) ?_
  refine gl_v rfl (o_nil rfl) ?_
  first | refine gl_v rfl (o_fldS rfl) ?_ | refine gl_v rfl (o_fld rfl) ?_
  first | refine gl_v rfl (o_load rfl rfl) ?_ | refine gl_v rfl (o_loadS rfl rfl) ?_ | refine gl_v rfl (o_loadC rfl) ?_
  refine gl_v rfl (o_move rfl) ?_
  refine gl_v rfl (o_idxS rfl rfl (by first | assumption | omega)) ?_
  refine gl_v rfl (o_loadS rfl hxv) ?_
  first | refine gl_v rfl (o_eqlPn rfl rfl) ?_ | refine gl_v rfl (o_eqlnn rfl rfl) ?_
  refine gl_nil ?_
  refine ge_then ?_
  refine g_cond_true (rfl) ?_
  refine g_seq ?_
  refine g_seq ?_
  refine g_region ?_
  refine gl_v rfl (o_move rfl) ?_
  refine gl_v rfl (o_not rfl) ?_
  refine gl_nil ?_
  refine ge_then ?_
  refine g_cond_true (rfl) ?_
  refine g_ret ?_
  refine ge_then_ret ?_
  refine ge_then_ret ?_
  refine ret0 (.inl rfl) rfl  _ ⟨rfl, rfl⟩ (crowd_close ⟨a1, c1, a2, c2, a3, c3, a6, c6, k6, xs, ys, tk, t⟩ ⟨e1, e2, e3, e4, e5⟩ ?_)
  dsimp only [crL]
  simp only [List.cons_append, List.nil_append]
  exact (To.sat (by repeat (first | exact .nil | exact .done .refl | (apply To.cons; · (repeat (first | exact .head | apply Sel.tail))) | exact .done (by repeat (first | exact .refl | apply Drop.skip)))))

theorem put_spec (q r m n p B : Nat) (c : CW) (hs : List Tk) (f h : Nat) (C : CI n B c hs f h) (hB : B < 99999) (hp : p < 3) (more : Bool) : FnS Try.prog 40 [ptr q 0, I64 p, .bool more] [crowdA q r m n c]
      (fun u Bs => u = .tuple #[] ∧ Bs = [crowdA q r m n (putStep n p more c)]) := by
  unfold putStep
  cases hps : c.ps.getD p none with
  | some o => exact put_run q r m n p B c hs f h C hB hp more o hps
  | none =>
    cases more with
    | false => exact put_idle q r m n p B c hs f h C hB hp hps
    | true => exact put_new q r m n p B c hs f h C hB hp hps

set_option maxRecDepth 8000 in
theorem out_run (q r m n B : Nat) (c : CW) (hs : List Tk) (f h : Nat) (C : CI n B c hs f h) (hB : B < 99999) (o : RO) (htk : c.tk = some o) : FnS Try.prog 41 [ptr q 0] [crowdA q r m n c]
      (fun u Bs => u = .bool (outGo n o (c.steps + 1) c).2 ∧ Bs = [crowdA q r m n (outGo n o (c.steps + 1) c).1]) := by
  refine fn_body Try.func41 rfl rfl rfl ?_
  intro W0 R
  simp only [List.zipIdx_cons, List.zipIdx_nil, List.map_cons, List.map_nil, Nat.zero_add, Nat.reduceAdd, List.cons_append, List.nil_append]
  refine g_open (by repeat (first | exact .head | apply Sel.tail)) ?_
  rintro ⟨a1, c1, a2, c2, a3, c3, a6, c6, k6, xs, ys, tk, t⟩ ⟨e1, e2, e3, e4, e5⟩
  dsimp only at e1 e2 e3 e4 e5
  simp only [crL, List.cons_append, List.nil_append]
  have hRI := ci_RI C
  have hcn := ci_cnt C
  have hn1 := C.n1
  have lp := C.lp
  have lin := C.lin
  have ln := C.ln
  have hxl : xs.length = 3 := by rw [← lp, ← e1, List.length_map]
  have hyl : ys.length = 3 := by rw [← lin, ← e2, List.length_map]
  have htl := ci_taken C
  rw [htk] at e3
  obtain ⟨a, rfl⟩ : ∃ a, tk = some (a, o) := by
    cases tk with
    | none => cases e3
    | some q => obtain ⟨a, o'⟩ := q; cases e3; exact ⟨a, rfl⟩
  have hoi := C.toi o htk
  have hso : c.steps = o.pc - 5 := C.tst o htk
  have hpc := hoi.pc
  dsimp only [oV, oA]
  refine g_seq ?_
  refine g_region ?_
  refine gl_v rfl (o_assign rfl) ?_
  refine gl_nil ?_
  refine ge_then ?_
  refine g_seq ?_
  refine g_seq ?_
  refine g_region ?_
  refine gl_v rfl (o_move rfl) ?_
  refine gl_v rfl (o_nil rfl) ?_
  first | refine gl_v rfl (o_fldS rfl) ?_ | refine gl_v rfl (o_fld rfl) ?_
  first | refine gl_v rfl (o_load rfl rfl) ?_ | refine gl_v rfl (o_loadS rfl rfl) ?_ | refine gl_v rfl (o_loadC rfl) ?_
  first | refine gl_v rfl (o_eqlPn rfl rfl) ?_ | refine gl_v rfl (o_eqlnn rfl rfl) ?_
  refine gl_nil ?_
  refine ge_then ?_
  refine g_cond_false (rfl) ?_
  refine g_skip ?_
  refine ge_then ?_
  refine g_seq ?_
  refine g_region ?_
  refine gl_v rfl (o_move rfl) ?_
  refine gl_v rfl (o_nil rfl) ?_
  first | refine gl_v rfl (o_fldS rfl) ?_ | refine gl_v rfl (o_fld rfl) ?_
  first | refine gl_v rfl (o_load rfl rfl) ?_ | refine gl_v rfl (o_loadS rfl rfl) ?_ | refine gl_v rfl (o_loadC rfl) ?_
  refine gl_v rfl (o_addR (c.steps + 1) (wr_i64 (by omega)) rfl rfl) ?_
  refine gl_v rfl (o_nil rfl) ?_
  first | refine gl_v rfl (o_fldS rfl) ?_ | refine gl_v rfl (o_fld rfl) ?_
  first | refine gl_u (o_store rfl rfl rfl rfl) ?_ | refine gl_u (o_storeS rfl rfl rfl (by first | assumption | omega | simp)) ?_
  refine gl_nil ?_
  refine ge_then ?_
  refine g_seq ?_
  refine g_seq ?_
  refine g_region ?_
  refine gl_v rfl (o_move rfl) ?_
  refine gl_v rfl (o_nil rfl) ?_
  first | refine gl_v rfl (o_fldS rfl) ?_ | refine gl_v rfl (o_fld rfl) ?_
  first | refine gl_v rfl (o_load rfl rfl) ?_ | refine gl_v rfl (o_loadS rfl rfl) ?_ | refine gl_v rfl (o_loadC rfl) ?_
  refine gl_c rfl (o_call rfl (Step_spec a r m 0 n c.L t o hRI hoi) (by repeat (first | exact .nil | (apply Part.cons; · (repeat (first | exact .head | apply Sel.tail)))))) ?_
  rintro _ R ⟨_, ⟨rfl, rfl⟩, rfl⟩
  try simp only [List.cons_append, List.nil_append]
  refine gl_v rfl (o_not rfl) ?_
  refine gl_nil ?_
  refine ge_then ?_
  refine g_cond rfl (fun hc1 => ?_) (fun hc1 => ?_)
  ·
    first | replace hc1 := of_decide_eq_true hc1 | replace hc1 := lt_f hc1 | replace hc1 := le_f hc1 | replace hc1 := dec_f hc1 | replace hc1 := nlt_t hc1 | replace hc1 := nle_t hc1 | replace hc1 := ndec_t hc1 | replace hc1 := ndec_f hc1 | replace hc1 := nn_t hc1 | replace hc1 := nn_f hc1 | skip
    have hov : (goO 0 n c.L o).over = false := by first | exact over_f hc1 | exact hc1
    refine g_seq ?_
    refine g_seq ?_
    refine g_region ?_
    refine gl_v rfl (o_move rfl) ?_
    refine gl_v rfl (o_nil rfl) ?_
    first | refine gl_v rfl (o_fldS rfl) ?_ | refine gl_v rfl (o_fld rfl) ?_
    first | refine gl_v rfl (o_load rfl rfl) ?_ | refine gl_v rfl (o_loadS rfl rfl) ?_ | refine gl_v rfl (o_loadC rfl) ?_
    refine gl_v rfl (o_eql rfl rfl) ?_
    refine gl_nil ?_
    refine ge_then ?_
    refine g_cond rfl (fun hc2 => ?_) (fun hc2 => ?_)
    ·
      first | replace hc2 := of_decide_eq_true hc2 | replace hc2 := lt_f hc2 | replace hc2 := le_f hc2 | replace hc2 := dec_f hc2 | replace hc2 := nlt_t hc2 | replace hc2 := nle_t hc2 | replace hc2 := ndec_t hc2 | replace hc2 := ndec_f hc2 | replace hc2 := nn_t hc2 | replace hc2 := nn_f hc2 | skip
      have hc4 : (c.steps + 1) = 4 := hc2
      refine g_region ?_
      refine gl_v rfl (o_move rfl) ?_
      refine gl_v rfl (o_nil rfl) ?_
      first | refine gl_v rfl (o_fldS rfl) ?_ | refine gl_v rfl (o_fld rfl) ?_
      first | refine gl_v rfl (o_load rfl rfl) ?_ | refine gl_v rfl (o_loadS rfl rfl) ?_ | refine gl_v rfl (o_loadC rfl) ?_
      refine gl_v rfl (o_subR (c.count - 1) (wr_i64 (by omega)) rfl rfl) ?_
      refine gl_v rfl (o_nil rfl) ?_
      first | refine gl_v rfl (o_fldS rfl) ?_ | refine gl_v rfl (o_fld rfl) ?_
      first | refine gl_u (o_store rfl rfl rfl rfl) ?_ | refine gl_u (o_storeS rfl rfl rfl (by first | assumption | omega | simp)) ?_
      refine gl_nil ?_
      refine ge_then ?_
      refine g_seq ?_
      refine g_region ?_
      refine gl_v rfl (o_assign rfl) ?_
      refine gl_nil ?_
      refine ge_then ?_
      refine g_ret ?_
      refine ge_then_ret ?_
      rw [outGo_run (st := (c.steps + 1)) (o := o) hov, if_pos hc4]
      refine ret1 (.inl rfl) rfl rfl  _ ⟨by first | rfl | simp [hd], rfl⟩ (crowd_close ⟨a1, c1, a2, c2, a3, c3, a6, c6, k6, xs, ys, some (a, (goO 0 n c.L o)), (if o.over then t else tup t)⟩ ⟨e1, e2, rfl, e4, e5⟩ ?_)
      dsimp only [crL, oV, oA]
      simp only [List.cons_append, List.nil_append]
      exact (To.sat (by repeat (first | exact .nil | exact .done .refl | (apply To.cons; · (repeat (first | exact .head | apply Sel.tail))) | exact .done (by repeat (first | exact .refl | apply Drop.skip)))))
    ·
      first | replace hc2 := of_decide_eq_true hc2 | replace hc2 := lt_f hc2 | replace hc2 := le_f hc2 | replace hc2 := dec_f hc2 | replace hc2 := nlt_t hc2 | replace hc2 := nle_t hc2 | replace hc2 := ndec_t hc2 | replace hc2 := ndec_f hc2 | replace hc2 := nn_t hc2 | replace hc2 := nn_f hc2 | skip
      have hc4 : ¬ (c.steps + 1) = 4 := hc2
      refine g_skip ?_
      refine ge_then ?_
      refine g_seq ?_
      refine g_region ?_
      refine gl_v rfl (o_assign rfl) ?_
      refine gl_nil ?_
      refine ge_then ?_
      refine g_ret ?_
      refine ge_then_ret ?_
      rw [outGo_run (st := (c.steps + 1)) (o := o) hov, if_neg hc4]
      refine ret1 (.inl rfl) rfl rfl  _ ⟨by first | rfl | simp [hd], rfl⟩ (crowd_close ⟨a1, c1, a2, c2, a3, c3, a6, c6, k6, xs, ys, some (a, (goO 0 n c.L o)), (if o.over then t else tup t)⟩ ⟨e1, e2, rfl, e4, e5⟩ ?_)
      dsimp only [crL, oV, oA]
      simp only [List.cons_append, List.nil_append]
      exact (To.sat (by repeat (first | exact .nil | exact .done .refl | (apply To.cons; · (repeat (first | exact .head | apply Sel.tail))) | exact .done (by repeat (first | exact .refl | apply Drop.skip)))))
  ·
    first | replace hc1 := of_decide_eq_true hc1 | replace hc1 := lt_f hc1 | replace hc1 := le_f hc1 | replace hc1 := dec_f hc1 | replace hc1 := nlt_t hc1 | replace hc1 := nle_t hc1 | replace hc1 := ndec_t hc1 | replace hc1 := ndec_f hc1 | replace hc1 := nn_t hc1 | replace hc1 := nn_f hc1 | skip
    have hov : (goO 0 n c.L o).over = true := by first | exact over_t hc1 | exact hc1
    refine g_skip ?_
    refine ge_then ?_
    refine g_seq ?_
    refine g_region ?_
    refine gl_v rfl (o_move rfl) ?_
    refine gl_v rfl (o_nil rfl) ?_
    first | refine gl_v rfl (o_fldS rfl) ?_ | refine gl_v rfl (o_fld rfl) ?_
    first | refine gl_v rfl (o_load rfl rfl) ?_ | refine gl_v rfl (o_loadS rfl rfl) ?_ | refine gl_v rfl (o_loadC rfl) ?_
    refine gl_c rfl (o_call rfl (Outcome_spec a r (goO 0 n c.L o)) (by repeat (first | exact .nil | (apply Part.cons; · (repeat (first | exact .head | apply Sel.tail)))))) ?_
    rintro _ R ⟨_, ⟨rfl, rfl⟩, rfl⟩
    try simp only [List.cons_append, List.nil_append]
    refine gl_v rfl (o_neq rfl rfl) ?_
    refine gl_v rfl (o_assign rfl) ?_
    refine gl_nil ?_
    refine ge_then ?_
    refine g_seq ?_
    refine g_seq ?_
    refine g_region ?_
    refine gl_v rfl (o_move rfl) ?_
    refine gl_v rfl (o_not rfl) ?_
    refine gl_nil ?_
    refine ge_then ?_
    refine g_cond rfl (fun hc3 => ?_) (fun hc3 => ?_)
    ·
      first | replace hc3 := of_decide_eq_true hc3 | replace hc3 := lt_f hc3 | replace hc3 := le_f hc3 | replace hc3 := dec_f hc3 | replace hc3 := nlt_t hc3 | replace hc3 := nle_t hc3 | replace hc3 := ndec_t hc3 | replace hc3 := ndec_f hc3 | replace hc3 := nn_t hc3 | replace hc3 := nn_f hc3 | skip
      have hd : (goO 0 n c.L o).out = 1 := by simpa using hc3
      refine g_draw [9, 10, 11, 14] [9, 10, 11] [(0, .stab), (1, .stab), (2, .stab), (3, .stab), (4, .stab), (5, .loc), (6, .loc), (7, .loc), (8, .loc), (9, .eff), (10, .eff), (11, .eff), (12, .loc), (13, .loc), (14, .eff)] [cel q 52 [ptr r 0, .slice a1 3 c1, .slice a2 3 c2, .slice a3 3 c3, ptr a 0, I64 (c.steps + 1), .slice a6 k6 c6, I64 c.most, I64 c.count]] mixed (by kernel_rfl) ?_
      refine go_vs rfl .none rfl (o_move rfl) (To.sat (by repeat (first | exact .nil | exact .done .refl | (apply To.cons; · (repeat (first | exact .head | apply Sel.tail))) | exact .done (by repeat (first | exact .refl | apply Drop.skip))))) ?_
      refine go_vs rfl .none rfl (o_move rfl) (To.sat (by repeat (first | exact .nil | exact .done .refl | (apply To.cons; · (repeat (first | exact .head | apply Sel.tail))) | exact .done (by repeat (first | exact .refl | apply Drop.skip))))) ?_
      refine go_vs rfl .none rfl (o_nil rfl) (To.sat (by repeat (first | exact .nil | exact .done .refl | (apply To.cons; · (repeat (first | exact .head | apply Sel.tail))) | exact .done (by repeat (first | exact .refl | apply Drop.skip))))) ?_
      first | refine go_vs rfl .none rfl (o_fldS rfl) (To.sat (by repeat (first | exact .nil | exact .done .refl | (apply To.cons; · (repeat (first | exact .head | apply Sel.tail))) | exact .done (by repeat (first | exact .refl | apply Drop.skip))))) ?_ | refine go_vs rfl .none rfl (o_fld rfl) (To.sat (by repeat (first | exact .nil | exact .done .refl | (apply To.cons; · (repeat (first | exact .head | apply Sel.tail))) | exact .done (by repeat (first | exact .refl | apply Drop.skip))))) ?_
      first | refine go_vs rfl .none rfl (o_load rfl rfl) (To.sat (by repeat (first | exact .nil | exact .done .refl | (apply To.cons; · (repeat (first | exact .head | apply Sel.tail))) | exact .done (by repeat (first | exact .refl | apply Drop.skip))))) ?_ | refine go_vs rfl .none rfl (o_loadS rfl rfl) (To.sat (by repeat (first | exact .nil | exact .done .refl | (apply To.cons; · (repeat (first | exact .head | apply Sel.tail))) | exact .done (by repeat (first | exact .refl | apply Drop.skip))))) ?_ | refine go_vs rfl .none rfl (o_loadC rfl) (To.sat (by repeat (first | exact .nil | exact .done .refl | (apply To.cons; · (repeat (first | exact .head | apply Sel.tail))) | exact .done (by repeat (first | exact .refl | apply Drop.skip))))) ?_
      refine go_v rfl .none rfl (o_move rfl) ?_
      refine go_v rfl .none rfl (o_nil rfl) ?_
      first | refine go_v rfl .none rfl (o_fldS rfl) ?_ | refine go_v rfl .none rfl (o_fld rfl) ?_
      first | refine go_v rfl .none rfl (o_load rfl rfl) ?_ | refine go_v rfl .none rfl (o_loadS rfl rfl) ?_ | refine go_v rfl .none rfl (o_loadC rfl) ?_
      refine go_c rfl .none rfl (o_call rfl (Value_spec a r (goO 0 n c.L o)) (by repeat (first | exact .nil | (apply Part.cons; · (repeat (first | exact .head | apply Sel.tail)))))) ?_
      rintro _ R ⟨_, ⟨rfl, rfl⟩, rfl⟩
      try simp only [List.cons_append, List.nil_append]
      rw [show (goO 0 n c.L o).value = (goO 0 n c.L o).val from if_pos hd]
      refine ⟨(fun _ => (To.sat (by repeat (first | exact .nil | exact .done .refl | (apply To.cons; · (repeat (first | exact .head | apply Sel.tail))) | exact .done (by repeat (first | exact .refl | apply Drop.skip)))))), ?_⟩
      first | refine go_n rfl .none rfl (o_buildS1 rfl rfl rfl) ?_ | refine go_n rfl .none rfl (o_buildS1A rfl rfl rfl rfl) ?_ | refine go_n rfl .none rfl (o_buildS rfl rfl rfl rfl) ?_
      rintro _ _ ⟨b63, rfl, rfl⟩
      refine ⟨(fun _ => (To.sat (by repeat (first | exact .nil | exact .done .refl | (apply To.cons; · (repeat (first | exact .head | apply Sel.tail))) | exact .done (by repeat (first | exact .refl | apply Drop.skip)))))), ?_⟩
      refine go_n rfl .none rfl (o_append rfl rfl (by repeat (first | exact .nil | (apply Part.cons; · (repeat (first | exact .head | apply Sel.tail))))) rfl rfl rfl (by omega) (by unfold maxLen; omega)) ?_
      rintro _ _ ⟨a64, c64, rfl, rfl⟩
      rw [show c.taken.map U64 ++ [U64 (goO 0 n c.L o).val] = (c.taken ++ [(goO 0 n c.L o).val]).map U64 by simp]
      refine ⟨(fun _ => (To.sat (by repeat (first | exact .nil | exact .done .refl | (apply To.cons; · (repeat (first | exact .head | apply Sel.tail))) | exact .done (by repeat (first | exact .refl | apply Drop.skip)))))), ?_⟩
      refine go_v rfl .none rfl (o_nil rfl) ?_
      first | refine go_v rfl .none rfl (o_fldS rfl) ?_ | refine go_v rfl .none rfl (o_fld rfl) ?_
      first | refine go_u rfl .none (o_store rfl rfl rfl rfl) (fun hG => absurd hG (by decide)) ?_ | refine go_u rfl .none (o_storeS rfl rfl rfl (by first | assumption | omega | simp)) (fun hG => absurd hG (by decide)) ?_
      refine go_nil ?_
      refine ge_then ?_
      refine g_seq ?_
      refine g_region ?_
      refine gl_v rfl (o_move rfl) ?_
      refine gl_v rfl (o_nil rfl) ?_
      first | refine gl_v rfl (o_fldS rfl) ?_ | refine gl_v rfl (o_fld rfl) ?_
      first | refine gl_u (o_store rfl rfl rfl rfl) ?_ | refine gl_u (o_storeS rfl rfl rfl (by first | assumption | omega | simp)) ?_
      refine gl_nil ?_
      refine ge_then ?_
      refine g_seq ?_
      refine g_region ?_
      refine gl_v rfl (o_move rfl) ?_
      refine gl_v rfl (o_assign rfl) ?_
      refine gl_nil ?_
      refine ge_then ?_
      refine g_ret ?_
      refine ge_imp emp0 ?_
      rw [outGo_done (st := (c.steps + 1)) (o := o) hov hd]
      refine ret1 (.inl rfl) rfl rfl  _ ⟨by first | rfl | simp [hd], rfl⟩ (crowd_close ⟨a1, c1, a2, c2, a3, c3, a64, c64, (k6 + 1), xs, ys, none, (if o.over then t else tup t)⟩ ⟨e1, e2, rfl, e4, by simp [e5]⟩ ?_)
      dsimp only [crL, oV, oA]
      simp only [List.cons_append, List.nil_append]
      exact (To.sat (by repeat (first | exact .nil | exact .done .refl | (apply To.cons; · (repeat (first | exact .head | apply Sel.tail))) | exact .done (by repeat (first | exact .refl | apply Drop.skip)))))
    ·
      first | replace hc3 := of_decide_eq_true hc3 | replace hc3 := lt_f hc3 | replace hc3 := le_f hc3 | replace hc3 := dec_f hc3 | replace hc3 := nlt_t hc3 | replace hc3 := nle_t hc3 | replace hc3 := ndec_t hc3 | replace hc3 := ndec_f hc3 | replace hc3 := nn_t hc3 | replace hc3 := nn_f hc3 | skip
      have hd : ¬ (goO 0 n c.L o).out = 1 := by simpa using hc3
      refine g_skip ?_
      refine ge_then ?_
      refine g_seq ?_
      refine g_region ?_
      refine gl_v rfl (o_move rfl) ?_
      refine gl_v rfl (o_nil rfl) ?_
      first | refine gl_v rfl (o_fldS rfl) ?_ | refine gl_v rfl (o_fld rfl) ?_
      first | refine gl_u (o_store rfl rfl rfl rfl) ?_ | refine gl_u (o_storeS rfl rfl rfl (by first | assumption | omega | simp)) ?_
      refine gl_nil ?_
      refine ge_then ?_
      refine g_seq ?_
      refine g_region ?_
      refine gl_v rfl (o_move rfl) ?_
      refine gl_v rfl (o_assign rfl) ?_
      refine gl_nil ?_
      refine ge_then ?_
      refine g_ret ?_
      refine ge_imp emp0 ?_
      rw [outGo_none (st := (c.steps + 1)) (o := o) hov hd]
      refine ret1 (.inl rfl) rfl rfl  _ ⟨by first | rfl | simp [hd], rfl⟩ (crowd_close ⟨a1, c1, a2, c2, a3, c3, a6, c6, k6, xs, ys, none, (if o.over then t else tup t)⟩ ⟨e1, e2, rfl, e4, e5⟩ ?_)
      dsimp only [crL, oV, oA]
      simp only [List.cons_append, List.nil_append]
      exact (To.sat (by repeat (first | exact .nil | exact .done .refl | (apply To.cons; · (repeat (first | exact .head | apply Sel.tail))) | exact .done (by repeat (first | exact .refl | apply Drop.skip)))))

set_option maxRecDepth 8000 in
theorem out_new (q r m n B : Nat) (c : CW) (hs : List Tk) (f h : Nat) (C : CI n B c hs f h) (hB : B < 99999) (htk : c.tk = none) : FnS Try.prog 41 [ptr q 0] [crowdA q r m n c]
      (fun u Bs => u = .bool (outGo n ⟨5, 0, 0, 0, 0⟩ 1 c).2 ∧ Bs = [crowdA q r m n (outGo n ⟨5, 0, 0, 0, 0⟩ 1 c).1]) := by
  refine fn_body Try.func41 rfl rfl rfl ?_
  intro W0 R
  simp only [List.zipIdx_cons, List.zipIdx_nil, List.map_cons, List.map_nil, Nat.zero_add, Nat.reduceAdd, List.cons_append, List.nil_append]
  refine g_open (by repeat (first | exact .head | apply Sel.tail)) ?_
  rintro ⟨a1, c1, a2, c2, a3, c3, a6, c6, k6, xs, ys, tk, t⟩ ⟨e1, e2, e3, e4, e5⟩
  dsimp only at e1 e2 e3 e4 e5
  simp only [crL, List.cons_append, List.nil_append]
  have hRI := ci_RI C
  have hcn := ci_cnt C
  have hn1 := C.n1
  have lp := C.lp
  have lin := C.lin
  have ln := C.ln
  have hxl : xs.length = 3 := by rw [← lp, ← e1, List.length_map]
  have hyl : ys.length = 3 := by rw [← lin, ← e2, List.length_map]
  have htl := ci_taken C
  rw [htk] at e3
  obtain rfl : tk = none := by cases tk <;> simp at e3 ⊢
  have hoi : OI (⟨5, 0, 0, 0, 0⟩ : RO) := ⟨by decide, by decide, by decide, by decide, by decide, by decide, by decide⟩
  dsimp only [oV, oA]
  refine g_seq ?_
  refine g_region ?_
  refine gl_v rfl (o_assign rfl) ?_
  refine gl_nil ?_
  refine ge_then ?_
  refine g_seq ?_
  refine g_seq ?_
  refine g_region ?_
  refine gl_v rfl (o_move rfl) ?_
  refine gl_v rfl (o_nil rfl) ?_
  first | refine gl_v rfl (o_fldS rfl) ?_ | refine gl_v rfl (o_fld rfl) ?_
  first | refine gl_v rfl (o_load rfl rfl) ?_ | refine gl_v rfl (o_loadS rfl rfl) ?_ | refine gl_v rfl (o_loadC rfl) ?_
  first | refine gl_v rfl (o_eqlPn rfl rfl) ?_ | refine gl_v rfl (o_eqlnn rfl rfl) ?_
  refine gl_nil ?_
  refine ge_then ?_
  refine g_cond_true (rfl) ?_
  refine g_seq ?_
  refine g_region ?_
  refine gl_v rfl (o_move rfl) ?_
  refine gl_v rfl (o_move rfl) ?_
  refine gl_v rfl (o_nil rfl) ?_
  first | refine gl_v rfl (o_fldS rfl) ?_ | refine gl_v rfl (o_fld rfl) ?_
  first | refine gl_v rfl (o_load rfl rfl) ?_ | refine gl_v rfl (o_loadS rfl rfl) ?_ | refine gl_v rfl (o_loadC rfl) ?_
  refine gl_c rfl (o_call rfl (Take_spec r) (by repeat (first | exact .nil | (apply Part.cons; · (repeat (first | exact .head | apply Sel.tail)))))) ?_
  rintro _ R ⟨_, ⟨a, rfl, rfl⟩, rfl⟩
  try simp only [List.cons_append, List.nil_append]
  refine gl_v rfl (o_nil rfl) ?_
  first | refine gl_v rfl (o_fldS rfl) ?_ | refine gl_v rfl (o_fld rfl) ?_
  first | refine gl_u (o_store rfl rfl rfl rfl) ?_ | refine gl_u (o_storeS rfl rfl rfl (by first | assumption | omega | simp)) ?_
  refine gl_nil ?_
  refine ge_then ?_
  refine g_region ?_
  refine gl_v rfl (o_move rfl) ?_
  refine gl_v rfl (o_nil rfl) ?_
  first | refine gl_v rfl (o_fldS rfl) ?_ | refine gl_v rfl (o_fld rfl) ?_
  first | refine gl_u (o_store rfl rfl rfl rfl) ?_ | refine gl_u (o_storeS rfl rfl rfl (by first | assumption | omega | simp)) ?_
  refine gl_nil ?_
  refine ge_then ?_
  refine g_seq ?_
  refine g_region ?_
  refine gl_v rfl (o_move rfl) ?_
  refine gl_v rfl (o_nil rfl) ?_
  first | refine gl_v rfl (o_fldS rfl) ?_ | refine gl_v rfl (o_fld rfl) ?_
  first | refine gl_v rfl (o_load rfl rfl) ?_ | refine gl_v rfl (o_loadS rfl rfl) ?_ | refine gl_v rfl (o_loadC rfl) ?_
  refine gl_v rfl (o_addR 1 (wr_i64 (by omega)) rfl rfl) ?_
  refine gl_v rfl (o_nil rfl) ?_
  first | refine gl_v rfl (o_fldS rfl) ?_ | refine gl_v rfl (o_fld rfl) ?_
  first | refine gl_u (o_store rfl rfl rfl rfl) ?_ | refine gl_u (o_storeS rfl rfl rfl (by first | assumption | omega | simp)) ?_
  refine gl_nil ?_
  refine ge_then ?_
  refine g_seq ?_
  refine g_seq ?_
  refine g_region ?_
  refine gl_v rfl (o_move rfl) ?_
  refine gl_v rfl (o_nil rfl) ?_
  first | refine gl_v rfl (o_fldS rfl) ?_ | refine gl_v rfl (o_fld rfl) ?_
  first | refine gl_v rfl (o_load rfl rfl) ?_ | refine gl_v rfl (o_loadS rfl rfl) ?_ | refine gl_v rfl (o_loadC rfl) ?_
  refine gl_c rfl (o_call rfl (Step_spec a r m 0 n c.L t (⟨5, 0, 0, 0, 0⟩ : RO) hRI hoi) (by repeat (first | exact .nil | (apply Part.cons; · (repeat (first | exact .head | apply Sel.tail)))))) ?_
  rintro _ R ⟨_, ⟨rfl, rfl⟩, rfl⟩
  try simp only [List.cons_append, List.nil_append]
  refine gl_v rfl (o_not rfl) ?_
  refine gl_nil ?_
  refine ge_then ?_
  refine g_cond rfl (fun hc1 => ?_) (fun hc1 => ?_)
  ·
    first | replace hc1 := of_decide_eq_true hc1 | replace hc1 := lt_f hc1 | replace hc1 := le_f hc1 | replace hc1 := dec_f hc1 | replace hc1 := nlt_t hc1 | replace hc1 := nle_t hc1 | replace hc1 := ndec_t hc1 | replace hc1 := ndec_f hc1 | replace hc1 := nn_t hc1 | replace hc1 := nn_f hc1 | skip
    have hov : (goO 0 n c.L (⟨5, 0, 0, 0, 0⟩ : RO)).over = false := by first | exact over_f hc1 | exact hc1
    refine g_seq ?_
    refine g_seq ?_
    refine g_region ?_
    refine gl_v rfl (o_move rfl) ?_
    refine gl_v rfl (o_nil rfl) ?_
    first | refine gl_v rfl (o_fldS rfl) ?_ | refine gl_v rfl (o_fld rfl) ?_
    first | refine gl_v rfl (o_load rfl rfl) ?_ | refine gl_v rfl (o_loadS rfl rfl) ?_ | refine gl_v rfl (o_loadC rfl) ?_
    refine gl_v rfl (o_eql rfl rfl) ?_
    refine gl_nil ?_
    refine ge_then ?_
    refine g_cond rfl (fun hc2 => ?_) (fun hc2 => ?_)
    ·
      first | replace hc2 := of_decide_eq_true hc2 | replace hc2 := lt_f hc2 | replace hc2 := le_f hc2 | replace hc2 := dec_f hc2 | replace hc2 := nlt_t hc2 | replace hc2 := nle_t hc2 | replace hc2 := ndec_t hc2 | replace hc2 := ndec_f hc2 | replace hc2 := nn_t hc2 | replace hc2 := nn_f hc2 | skip
      have hc4 : (1 : Int) = 4 := hc2
      refine g_region ?_
      refine gl_v rfl (o_move rfl) ?_
      refine gl_v rfl (o_nil rfl) ?_
      first | refine gl_v rfl (o_fldS rfl) ?_ | refine gl_v rfl (o_fld rfl) ?_
      first | refine gl_v rfl (o_load rfl rfl) ?_ | refine gl_v rfl (o_loadS rfl rfl) ?_ | refine gl_v rfl (o_loadC rfl) ?_
      refine gl_v rfl (o_subR (c.count - 1) (wr_i64 (by omega)) rfl rfl) ?_
      refine gl_v rfl (o_nil rfl) ?_
      first | refine gl_v rfl (o_fldS rfl) ?_ | refine gl_v rfl (o_fld rfl) ?_
      first | refine gl_u (o_store rfl rfl rfl rfl) ?_ | refine gl_u (o_storeS rfl rfl rfl (by first | assumption | omega | simp)) ?_
      refine gl_nil ?_
      refine ge_then ?_
      refine g_seq ?_
      refine g_region ?_
      refine gl_v rfl (o_assign rfl) ?_
      refine gl_nil ?_
      refine ge_then ?_
      refine g_ret ?_
      refine ge_then_ret ?_
      rw [outGo_run (st := 1) (o := (⟨5, 0, 0, 0, 0⟩ : RO)) hov, if_pos hc4]
      refine ret1 (.inl rfl) rfl rfl  _ ⟨by first | rfl | simp [hd], rfl⟩ (crowd_close ⟨a1, c1, a2, c2, a3, c3, a6, c6, k6, xs, ys, some (a, (goO 0 n c.L (⟨5, 0, 0, 0, 0⟩ : RO))), (if (⟨5, 0, 0, 0, 0⟩ : RO).over then t else tup t)⟩ ⟨e1, e2, rfl, e4, e5⟩ ?_)
      dsimp only [crL, oV, oA]
      simp only [List.cons_append, List.nil_append]
      exact (To.sat (by repeat (first | exact .nil | exact .done .refl | (apply To.cons; · (repeat (first | exact .head | apply Sel.tail))) | exact .done (by repeat (first | exact .refl | apply Drop.skip)))))
    ·
      first | replace hc2 := of_decide_eq_true hc2 | replace hc2 := lt_f hc2 | replace hc2 := le_f hc2 | replace hc2 := dec_f hc2 | replace hc2 := nlt_t hc2 | replace hc2 := nle_t hc2 | replace hc2 := ndec_t hc2 | replace hc2 := ndec_f hc2 | replace hc2 := nn_t hc2 | replace hc2 := nn_f hc2 | skip
      have hc4 : ¬ (1 : Int) = 4 := hc2
      refine g_skip ?_
      refine ge_then ?_
      refine g_seq ?_
      refine g_region ?_
      refine gl_v rfl (o_assign rfl) ?_
      refine gl_nil ?_
      refine ge_then ?_
      refine g_ret ?_
      refine ge_then_ret ?_
      rw [outGo_run (st := 1) (o := (⟨5, 0, 0, 0, 0⟩ : RO)) hov, if_neg hc4]
      refine ret1 (.inl rfl) rfl rfl  _ ⟨by first | rfl | simp [hd], rfl⟩ (crowd_close ⟨a1, c1, a2, c2, a3, c3, a6, c6, k6, xs, ys, some (a, (goO 0 n c.L (⟨5, 0, 0, 0, 0⟩ : RO))), (if (⟨5, 0, 0, 0, 0⟩ : RO).over then t else tup t)⟩ ⟨e1, e2, rfl, e4, e5⟩ ?_)
      dsimp only [crL, oV, oA]
      simp only [List.cons_append, List.nil_append]
      exact (To.sat (by repeat (first | exact .nil | exact .done .refl | (apply To.cons; · (repeat (first | exact .head | apply Sel.tail))) | exact .done (by repeat (first | exact .refl | apply Drop.skip)))))
  ·
    first | replace hc1 := of_decide_eq_true hc1 | replace hc1 := lt_f hc1 | replace hc1 := le_f hc1 | replace hc1 := dec_f hc1 | replace hc1 := nlt_t hc1 | replace hc1 := nle_t hc1 | replace hc1 := ndec_t hc1 | replace hc1 := ndec_f hc1 | replace hc1 := nn_t hc1 | replace hc1 := nn_f hc1 | skip
    have hov : (goO 0 n c.L (⟨5, 0, 0, 0, 0⟩ : RO)).over = true := by first | exact over_t hc1 | exact hc1
    refine g_skip ?_
    refine ge_then ?_
    refine g_seq ?_
    refine g_region ?_
    refine gl_v rfl (o_move rfl) ?_
    refine gl_v rfl (o_nil rfl) ?_
    first | refine gl_v rfl (o_fldS rfl) ?_ | refine gl_v rfl (o_fld rfl) ?_
    first | refine gl_v rfl (o_load rfl rfl) ?_ | refine gl_v rfl (o_loadS rfl rfl) ?_ | refine gl_v rfl (o_loadC rfl) ?_
    refine gl_c rfl (o_call rfl (Outcome_spec a r (goO 0 n c.L (⟨5, 0, 0, 0, 0⟩ : RO))) (by repeat (first | exact .nil | (apply Part.cons; · (repeat (first | exact .head | apply Sel.tail)))))) ?_
    rintro _ R ⟨_, ⟨rfl, rfl⟩, rfl⟩
    try simp only [List.cons_append, List.nil_append]
    refine gl_v rfl (o_neq rfl rfl) ?_
    refine gl_v rfl (o_assign rfl) ?_
    refine gl_nil ?_
    refine ge_then ?_
    refine g_seq ?_
    refine g_seq ?_
    refine g_region ?_
    refine gl_v rfl (o_move rfl) ?_
    refine gl_v rfl (o_not rfl) ?_
    refine gl_nil ?_
    refine ge_then ?_
    refine g_cond rfl (fun hc3 => ?_) (fun hc3 => ?_)
    ·
      first | replace hc3 := of_decide_eq_true hc3 | replace hc3 := lt_f hc3 | replace hc3 := le_f hc3 | replace hc3 := dec_f hc3 | replace hc3 := nlt_t hc3 | replace hc3 := nle_t hc3 | replace hc3 := ndec_t hc3 | replace hc3 := ndec_f hc3 | replace hc3 := nn_t hc3 | replace hc3 := nn_f hc3 | skip
      have hd : (goO 0 n c.L (⟨5, 0, 0, 0, 0⟩ : RO)).out = 1 := by simpa using hc3
      refine g_draw [9, 10, 11, 14] [9, 10, 11] [(0, .stab), (1, .stab), (2, .stab), (3, .stab), (4, .stab), (5, .loc), (6, .loc), (7, .loc), (8, .loc), (9, .eff), (10, .eff), (11, .eff), (12, .loc), (13, .loc), (14, .eff)] [cel q 52 [ptr r 0, .slice a1 3 c1, .slice a2 3 c2, .slice a3 3 c3, ptr a 0, I64 1, .slice a6 k6 c6, I64 c.most, I64 c.count]] mixed (by kernel_rfl) ?_
      refine go_vs rfl .none rfl (o_move rfl) (To.sat (by repeat (first | exact .nil | exact .done .refl | (apply To.cons; · (repeat (first | exact .head | apply Sel.tail))) | exact .done (by repeat (first | exact .refl | apply Drop.skip))))) ?_
      refine go_vs rfl .none rfl (o_move rfl) (To.sat (by repeat (first | exact .nil | exact .done .refl | (apply To.cons; · (repeat (first | exact .head | apply Sel.tail))) | exact .done (by repeat (first | exact .refl | apply Drop.skip))))) ?_
      refine go_vs rfl .none rfl (o_nil rfl) (To.sat (by repeat (first | exact .nil | exact .done .refl | (apply To.cons; · (repeat (first | exact .head | apply Sel.tail))) | exact .done (by repeat (first | exact .refl | apply Drop.skip))))) ?_
      first | refine go_vs rfl .none rfl (o_fldS rfl) (To.sat (by repeat (first | exact .nil | exact .done .refl | (apply To.cons; · (repeat (first | exact .head | apply Sel.tail))) | exact .done (by repeat (first | exact .refl | apply Drop.skip))))) ?_ | refine go_vs rfl .none rfl (o_fld rfl) (To.sat (by repeat (first | exact .nil | exact .done .refl | (apply To.cons; · (repeat (first | exact .head | apply Sel.tail))) | exact .done (by repeat (first | exact .refl | apply Drop.skip))))) ?_
      first | refine go_vs rfl .none rfl (o_load rfl rfl) (To.sat (by repeat (first | exact .nil | exact .done .refl | (apply To.cons; · (repeat (first | exact .head | apply Sel.tail))) | exact .done (by repeat (first | exact .refl | apply Drop.skip))))) ?_ | refine go_vs rfl .none rfl (o_loadS rfl rfl) (To.sat (by repeat (first | exact .nil | exact .done .refl | (apply To.cons; · (repeat (first | exact .head | apply Sel.tail))) | exact .done (by repeat (first | exact .refl | apply Drop.skip))))) ?_ | refine go_vs rfl .none rfl (o_loadC rfl) (To.sat (by repeat (first | exact .nil | exact .done .refl | (apply To.cons; · (repeat (first | exact .head | apply Sel.tail))) | exact .done (by repeat (first | exact .refl | apply Drop.skip))))) ?_
      refine go_v rfl .none rfl (o_move rfl) ?_
      refine go_v rfl .none rfl (o_nil rfl) ?_
      first | refine go_v rfl .none rfl (o_fldS rfl) ?_ | refine go_v rfl .none rfl (o_fld rfl) ?_
      first | refine go_v rfl .none rfl (o_load rfl rfl) ?_ | refine go_v rfl .none rfl (o_loadS rfl rfl) ?_ | refine go_v rfl .none rfl (o_loadC rfl) ?_
      refine go_c rfl .none rfl (o_call rfl (Value_spec a r (goO 0 n c.L (⟨5, 0, 0, 0, 0⟩ : RO))) (by repeat (first | exact .nil | (apply Part.cons; · (repeat (first | exact .head | apply Sel.tail)))))) ?_
      rintro _ R ⟨_, ⟨rfl, rfl⟩, rfl⟩
      try simp only [List.cons_append, List.nil_append]
      rw [show (goO 0 n c.L (⟨5, 0, 0, 0, 0⟩ : RO)).value = (goO 0 n c.L (⟨5, 0, 0, 0, 0⟩ : RO)).val from if_pos hd]
      refine ⟨(fun _ => (To.sat (by repeat (first | exact .nil | exact .done .refl | (apply To.cons; · (repeat (first | exact .head | apply Sel.tail))) | exact .done (by repeat (first | exact .refl | apply Drop.skip)))))), ?_⟩
      first | refine go_n rfl .none rfl (o_buildS1 rfl rfl rfl) ?_ | refine go_n rfl .none rfl (o_buildS1A rfl rfl rfl rfl) ?_ | refine go_n rfl .none rfl (o_buildS rfl rfl rfl rfl) ?_
      rintro _ _ ⟨b63, rfl, rfl⟩
      refine ⟨(fun _ => (To.sat (by repeat (first | exact .nil | exact .done .refl | (apply To.cons; · (repeat (first | exact .head | apply Sel.tail))) | exact .done (by repeat (first | exact .refl | apply Drop.skip)))))), ?_⟩
      refine go_n rfl .none rfl (o_append rfl rfl (by repeat (first | exact .nil | (apply Part.cons; · (repeat (first | exact .head | apply Sel.tail))))) rfl rfl rfl (by omega) (by unfold maxLen; omega)) ?_
      rintro _ _ ⟨a64, c64, rfl, rfl⟩
      rw [show c.taken.map U64 ++ [U64 (goO 0 n c.L (⟨5, 0, 0, 0, 0⟩ : RO)).val] = (c.taken ++ [(goO 0 n c.L (⟨5, 0, 0, 0, 0⟩ : RO)).val]).map U64 by simp]
      refine ⟨(fun _ => (To.sat (by repeat (first | exact .nil | exact .done .refl | (apply To.cons; · (repeat (first | exact .head | apply Sel.tail))) | exact .done (by repeat (first | exact .refl | apply Drop.skip)))))), ?_⟩
      refine go_v rfl .none rfl (o_nil rfl) ?_
      first | refine go_v rfl .none rfl (o_fldS rfl) ?_ | refine go_v rfl .none rfl (o_fld rfl) ?_
      first | refine go_u rfl .none (o_store rfl rfl rfl rfl) (fun hG => absurd hG (by decide)) ?_ | refine go_u rfl .none (o_storeS rfl rfl rfl (by first | assumption | omega | simp)) (fun hG => absurd hG (by decide)) ?_
      refine go_nil ?_
      refine ge_then ?_
      refine g_seq ?_
      refine g_region ?_
      refine gl_v rfl (o_move rfl) ?_
      refine gl_v rfl (o_nil rfl) ?_
      first | refine gl_v rfl (o_fldS rfl) ?_ | refine gl_v rfl (o_fld rfl) ?_
      first | refine gl_u (o_store rfl rfl rfl rfl) ?_ | refine gl_u (o_storeS rfl rfl rfl (by first | assumption | omega | simp)) ?_
      refine gl_nil ?_
      refine ge_then ?_
      refine g_seq ?_
      refine g_region ?_
      refine gl_v rfl (o_move rfl) ?_
      refine gl_v rfl (o_assign rfl) ?_
      refine gl_nil ?_
      refine ge_then ?_
      refine g_ret ?_
      rw [outGo_done (st := 1) (o := (⟨5, 0, 0, 0, 0⟩ : RO)) hov hd]
      refine ret1 (.inl rfl) rfl rfl  _ ⟨by first | rfl | simp [hd], rfl⟩ (crowd_close ⟨a1, c1, a2, c2, a3, c3, a64, c64, (k6 + 1), xs, ys, none, (if (⟨5, 0, 0, 0, 0⟩ : RO).over then t else tup t)⟩ ⟨e1, e2, rfl, e4, by simp [e5]⟩ ?_)
      dsimp only [crL, oV, oA]
      simp only [List.cons_append, List.nil_append]
      exact (To.sat (by repeat (first | exact .nil | exact .done .refl | (apply To.cons; · (repeat (first | exact .head | apply Sel.tail))) | exact .done (by repeat (first | exact .refl | apply Drop.skip)))))
    ·
      first | replace hc3 := of_decide_eq_true hc3 | replace hc3 := lt_f hc3 | replace hc3 := le_f hc3 | replace hc3 := dec_f hc3 | replace hc3 := nlt_t hc3 | replace hc3 := nle_t hc3 | replace hc3 := ndec_t hc3 | replace hc3 := ndec_f hc3 | replace hc3 := nn_t hc3 | replace hc3 := nn_f hc3 | skip
      have hd : ¬ (goO 0 n c.L (⟨5, 0, 0, 0, 0⟩ : RO)).out = 1 := by simpa using hc3
      refine g_skip ?_
      refine ge_then ?_
      refine g_seq ?_
      refine g_region ?_
      refine gl_v rfl (o_move rfl) ?_
      refine gl_v rfl (o_nil rfl) ?_
      first | refine gl_v rfl (o_fldS rfl) ?_ | refine gl_v rfl (o_fld rfl) ?_
      first | refine gl_u (o_store rfl rfl rfl rfl) ?_ | refine gl_u (o_storeS rfl rfl rfl (by first | assumption | omega | simp)) ?_
      refine gl_nil ?_
      refine ge_then ?_
      refine g_seq ?_
      refine g_region ?_
      refine gl_v rfl (o_move rfl) ?_
      refine gl_v rfl (o_assign rfl) ?_
      refine gl_nil ?_
      refine ge_then ?_
      refine g_ret ?_
      rw [outGo_none (st := 1) (o := (⟨5, 0, 0, 0, 0⟩ : RO)) hov hd]
      refine ret1 (.inl rfl) rfl rfl  _ ⟨by first | rfl | simp [hd], rfl⟩ (crowd_close ⟨a1, c1, a2, c2, a3, c3, a6, c6, k6, xs, ys, none, (if (⟨5, 0, 0, 0, 0⟩ : RO).over then t else tup t)⟩ ⟨e1, e2, rfl, e4, e5⟩ ?_)
      dsimp only [crL, oV, oA]
      simp only [List.cons_append, List.nil_append]
      exact (To.sat (by repeat (first | exact .nil | exact .done .refl | (apply To.cons; · (repeat (first | exact .head | apply Sel.tail))) | exact .done (by repeat (first | exact .refl | apply Drop.skip)))))

theorem out_spec (q r m n B : Nat) (c : CW) (hs : List Tk) (f h : Nat) (C : CI n B c hs f h) (hB : B < 99999) : FnS Try.prog 41 [ptr q 0] [crowdA q r m n c]
      (fun u Bs => u = .bool (outStep n c).2 ∧ Bs = [crowdA q r m n (outStep n c).1]) := by
  unfold outStep
  cases htk : c.tk with
  | some o => exact out_run q r m n B c hs f h C hB o htk
  | none => exact out_new q r m n B c hs f h C hB htk

end Go.Proofs.Ytnkcgfllehohbaa.L
