/-
  PostCharge: the office and its steps. Own work, printed in part by a program of its own.
-/
import Derived.Test.YtkpgcdhepfgfaaaPostJ
import Derived.Test.YtkpgcdhepfgfaaaPostS
import Derived.Test.YtkpgcdhepfgfaaaOfs
namespace Go.Proofs.Ytkpgcdhepfgfaaa.L
open Go.L Go.L.Ring Go.L.Post
attribute [local irreducible] postA goPO goPL
abbrev qp (q : Nat × PO) : Value := ptr q.1 0
abbrev qa (X : BX) (B : PB) (q : Nat × PO) : Assn := postA X B q.1 q.2
def uP : Option (Nat × PO) → Value
  | some q => ptr q.1 0
  | none => .pointer none
def uA (X : BX) (B : PB) : Option (Nat × PO) → Assn
  | some q => postA X B q.1 q.2
  | none => emp
abbrev us2 (us : List (Option (Nat × PO))) : List (Option PO) := us.map (Option.map (·.2))
theorem uP_one (u : Option (Nat × PO)) : (uP u).oneCell' = true := by cases u <;> rfl
theorem o_eqlU {P : Program} {W0 : World} {n : Nat} {sl : Slots} {As : List Assn} {ty t t' : TypeId} {x y : Operand} {u : Option (Nat × PO)} [i : TPtr P t] (hx : opv sl x = some (uP u)) (hy : opv sl y = some (.pointer none)) : OV P W0 n (.binOp .eql t x y t') ty sl As (.bool u.isNone) := by
  cases u with
  | none => exact o_eqlnn hx hy
  | some q => exact o_eqlPn hx hy
structure Gh where
  a1 : Option Addr
  c1 : Nat
  a2 : Option Addr
  c2 : Nat
  a3 : Option Addr
  c3 : Nat
  a4 : Option Addr
  c4 : Nat
  us : List (Option (Nat × PO))
  nts : List Bool
  wk : Option (Nat × PO)
  ss : List (Nat × PO)
def GhOk (w : OW) (e : Gh) : Prop := e.us.length = 3 ∧ e.nts.length = 3 ∧ w.nx.length = 3 ∧ us2 e.us = w.ts ∧ e.wk.map (·.2) = w.wk ∧ e.ss.map (·.2) = w.se
abbrev ocel (p : Nat) (X : BX) (s1 s2 s3 : Value) (inn chg most : Int) (wp : Value) (ph got : Int) (s4 : Value) : Assn := cel p 47 [ptr X.bx 0, s1, s2, s3, I64 inn, I64 chg, I64 most, wp, I64 ph, I64 got, s4]
abbrev S3 (a : Option Addr) (c : Nat) : Value := .slice a 3 c
def offL (p : Nat) (X : BX) (B : PB) (w : OW) (t : Int) (e : Gh) : List Assn :=
  [ocel p X (S3 e.a1 e.c1) (S3 e.a2 e.c2) (S3 e.a3 e.c3) w.inn w.chg w.most (uP e.wk) w.ph w.got (.slice e.a4 e.ss.length e.c4),
   own (S3 e.a1 e.c1) 29 1 3 (e.us.map uP), own (S3 e.a2 e.c2) 4 1 3 (e.nts.map Value.bool), own (S3 e.a3 e.c3) 31 1 3 (w.nx.map U64),
   fam (e.us.map (uA X B)), uA X B e.wk, ofs (.slice e.a4 e.ss.length e.c4) 29 e.ss.length (e.ss.map qp), fam (e.ss.map (qa X B)), envA X B w.L t]
def offA (p : Nat) (X : BX) (B : PB) (w : OW) (t : Int) : Assn := exA (GhOk w) (offL p X B w t)
theorem off_close {p : Nat} {X : BX} {B : PB} {t : Int} {As R : List Assn} {L : List Int} {nx : List Int} {inn chg most ph got : Int} (a1 : Option Addr) (c1 : Nat) (a2 : Option Addr) (c2 : Nat) (a3 : Option Addr) (c3 : Nat) (a4 : Option Addr) (c4 : Nat) (us : List (Option (Nat × PO))) (nts : List Bool) (wk : Option (Nat × PO)) (ss : List (Nat × PO))
    (h1 : us.length = 3) (h2 : nts.length = 3) (h3 : nx.length = 3)
    (h : ∀ h, Sat As h → Sat (offL p X B ⟨L, us2 us, nx, inn, chg, most, wk.map (·.2), ph, got, ss.map (·.2)⟩ t ⟨a1, c1, a2, c2, a3, c3, a4, c4, us, nts, wk, ss⟩ ++ R) h) : ∀ h, Sat As h → Sat (offA p X B ⟨L, us2 us, nx, inn, chg, most, wk.map (·.2), ph, got, ss.map (·.2)⟩ t :: R) h :=
  ex_close ⟨a1, c1, a2, c2, a3, c3, a4, c4, us, nts, wk, ss⟩ ⟨h1, h2, h3, rfl, rfl, rfl⟩ h
theorem us_at {us : List (Option (Nat × PO))} {q : Nat} (h : us.length = 3) (hq : q < 3) : ∃ u, us[q]? = some u ∧ (us2 us).getD q none = u.map (·.2) := by
  obtain ⟨u, hu⟩ : ∃ u, us[q]? = some u := ⟨_, List.getElem?_eq_getElem (by omega)⟩
  exact ⟨u, hu, by simp [List.getD_eq_getElem?_getD, hu]⟩
theorem usP {us : List (Option (Nat × PO))} {q : Nat} (x : Option (Nat × PO)) : (us.map uP).set (q * 1) (uP x) = (us.set q x).map uP := by rw [Nat.mul_one, List.map_set]
theorem usP_same {us : List (Option (Nat × PO))} {q pp : Nat} {po : PO} (h : us[q]? = some (some (pp, po))) (o' : PO) : (us.set q (some (pp, o'))).map uP = us.map uP := by
  rw [List.map_set]
  apply List.ext_getElem?
  intro j
  rw [List.getElem?_set]
  by_cases e : q = j
  · subst e
    have hq := (List.getElem?_eq_some_iff.1 h).1
    rw [if_pos rfl, if_pos (by simpa using hq), List.getElem?_map, h]; rfl
  · rw [if_neg e]
theorem famq {X : BX} {B : PB} {us : List (Option (Nat × PO))} {q : Nat} (h : us[q]? = some none) (x : Option (Nat × PO)) : ((us.set q x).map (uA X B)).set q emp = us.map (uA X B) := by
  rw [List.map_set, List.set_set]
  apply List.ext_getElem?
  intro j
  rw [List.getElem?_set]
  by_cases e : q = j
  · subst e
    have hq := (List.getElem?_eq_some_iff.1 h).1
    rw [if_pos rfl, if_pos (by simpa using hq), List.getElem?_map, h]; rfl
  · rw [if_neg e]
theorem fams {X : BX} {B : PB} {us : List (Option (Nat × PO))} {q : Nat} (x : Option (Nat × PO)) : (us.map (uA X B)).set q (uA X B x) = (us.set q x).map (uA X B) := (List.map_set ..).symm
theorem nxq {nx : List Int} {q : Nat} {v : Int} (h : q < nx.length) : ((nx.set q v).map U64)[q * 1]? = some (U64 v) := by rw [Nat.mul_one]; simp [h]
theorem fam_tail {A : Assn} {l R : List Assn} : ∀ h, Sat (fam (A :: l) :: R) h → Sat (fam l :: R) h := fun _ s => Sat.flat.2 (Sat.drop (Sat.flat.1 s))
theorem fam3 {X : BX} {B : PB} {R : List Assn} : ∀ h, Sat R h → Sat (fam (([none, none, none] : List (Option (Nat × PO))).map (uA X B)) :: R) h := fun h s => Sat.flat.2 (emp0 h (emp0 h (emp0 h s)))
theorem us_set {us : List (Option (Nat × PO))} {q : Nat} (x : Option (Nat × PO)) : us2 (us.set q x) = (us2 us).set q (x.map (·.2)) := by simp [us2, List.map_set]

set_option maxHeartbeats 1000000 in
set_option maxRecDepth 8000 in
theorem charge_spec (p : Nat) (X : BX) (s1 s2 s3 wp s4 : Value) (inn chg most ph got : Int) (hc : 0 ≤ chg ∧ chg ≤ 1000) : FnS Try.prog 46 [ptr p 0] [ocel p X s1 s2 s3 inn chg most wp ph got s4] (fun u Bs => u = .tuple #[] ∧ Bs = [ocel p X s1 s2 s3 inn (chg + 1) (mxi most (chg + 1)) wp ph got s4]) := by
  refine fn_body Try.func46 rfl rfl rfl ?_
  intro W0 R
  simp only [List.zipIdx_cons, List.zipIdx_nil, List.map_cons, List.map_nil, Nat.zero_add, Nat.reduceAdd, List.cons_append, List.nil_append]
  refine g_seq ?_
  refine g_region ?_
  refine gl_v rfl (o_move rfl) ?_
  refine gl_v rfl (o_nil rfl) ?_
  first | refine gl_v rfl (o_fldS rfl) ?_ | refine gl_v rfl (o_fld rfl) ?_
  first | refine gl_v rfl (o_load rfl rfl) ?_ | refine gl_v rfl (o_loadS rfl rfl) ?_ | refine gl_v rfl (o_loadC rfl) ?_
  refine gl_v rfl (o_addR (chg + 1) (wr_i64 (by omega)) rfl rfl) ?_
  refine gl_v rfl (o_nil rfl) ?_
  first | refine gl_v rfl (o_fldS rfl) ?_ | refine gl_v rfl (o_fld rfl) ?_
  first | refine gl_u (o_store rfl rfl rfl rfl) ?_ | refine gl_u (o_storeS rfl rfl rfl (by first | assumption | omega | simp)) ?_
  refine gl_nil ?_
  refine ge_then ?_
  refine g_draw [12] [] [(0, .loc), (1, .loc), (2, .loc), (3, .loc), (4, .loc), (5, .loc), (6, .loc), (7, .loc), (8, .loc), (9, .loc), (10, .loc), (11, .loc), (12, .eff)] [] mixed (by kernel_rfl) ?_
  refine go_v rfl .none rfl (o_move rfl) ?_
  refine go_v rfl .none rfl (o_move rfl) ?_
  refine go_v rfl .none rfl (o_nil rfl) ?_
  first | refine go_v rfl .none rfl (o_fldS rfl) ?_ | refine go_v rfl .none rfl (o_fld rfl) ?_
  first | refine go_v rfl .none rfl (o_load rfl rfl) ?_ | refine go_v rfl .none rfl (o_loadS rfl rfl) ?_ | refine go_v rfl .none rfl (o_loadC rfl) ?_
  refine go_v rfl .none rfl (o_move rfl) ?_
  refine go_v rfl .none rfl (o_nil rfl) ?_
  first | refine go_v rfl .none rfl (o_fldS rfl) ?_ | refine go_v rfl .none rfl (o_fld rfl) ?_
  first | refine go_v rfl .none rfl (o_load rfl rfl) ?_ | refine go_v rfl .none rfl (o_loadS rfl rfl) ?_ | refine go_v rfl .none rfl (o_loadC rfl) ?_
  refine go_v rfl .none rfl (o_max (mxi most (chg + 1)) rfl rfl rfl) ?_
  refine go_v rfl .none rfl (o_nil rfl) ?_
  first | refine go_v rfl .none rfl (o_fldS rfl) ?_ | refine go_v rfl .none rfl (o_fld rfl) ?_
  first | refine go_u rfl .none (o_store rfl rfl rfl rfl) (fun hG => absurd hG (by decide)) ?_ | refine go_u rfl .none (o_storeS rfl rfl rfl (by first | assumption | omega | simp)) (fun hG => absurd hG (by decide)) ?_
  refine go_nil ?_
  refine ret0 (.inr rfl) rfl _ (⟨rfl, rfl⟩) (To.sat (by repeat (first | exact .nil | exact .done .refl | (apply To.cons; · (repeat (first | exact .head | apply Sel.tail))) | exact .done (by repeat (first | exact .refl | apply Drop.skip)))))

set_option maxHeartbeats 1000000 in
set_option maxRecDepth 8000 in
theorem tell_spec (p : Nat) (X : BX) (B : PB) (w : OW) (t : Int) (q : Nat) (nt more : Bool) (hw : OkW B w) (hq : q < 3) : FnS Try.prog 15 [ptr p 0, I64 q, .bool nt, .bool more] [offA p X B w t] (fun u Bs => u = .tuple #[] ∧ ∃ t', Bs = [offA p X B (Post.tellStep B q nt more w) t']) := by
  refine fn_body Try.func15 rfl rfl rfl ?_
  intro W0 R
  simp only [List.zipIdx_cons, List.zipIdx_nil, List.map_cons, List.map_nil, Nat.zero_add, Nat.reduceAdd, List.cons_append, List.nil_append]
  obtain ⟨L, ts, nx, inn, chg, most, wk0, ph, got, se⟩ := w
  refine g_open (l := offL p X B _ t) (by repeat (first | exact .head | apply Sel.tail)) ?_
  rintro ⟨a1, c1, a2, c2, a3, c3, a4, c4, us, nts, wk, ss⟩ ⟨hul, hnl, hxl, hts, hwk, hse⟩
  replace hul : us.length = 3 := hul
  replace hnl : nts.length = 3 := hnl
  replace hxl : nx.length = 3 := hxl
  obtain rfl : us2 us = ts := hts
  obtain rfl : wk.map (·.2) = wk0 := hwk
  obtain rfl : ss.map (·.2) = se := hse
  have hpi : PI B L := hw.pi
  have hli : LI L := hw.li
  have hinn : -10 ≤ inn ∧ inn ≤ 1000000 := hw.inn
  have hchg : 0 ≤ chg ∧ chg ≤ 1 := hw.chg
  have hph : 0 ≤ ph ∧ ph ≤ 3 := hw.ph
  have hgot : 0 ≤ got ∧ got ≤ 1000000 := hw.got
  have hfew : ss.length ≤ 1000 := by have := hw.few; simpa using this
  simp only [offL, List.cons_append, List.nil_append]
  obtain ⟨u, hu, hug⟩ := us_at hul hq
  have hnxq : 0 ≤ nx.getD q 0 ∧ nx.getD q 0 ≤ 100000 := hw.nx q hq
  refine g_cut (fun act wo => ∃ (us1 : List (Option (Nat × PO))) (nts1 : List Bool) (nx1 : List Int) (pp : Nat) (po : PO), us1.length = 3 ∧ nts1.length = 3 ∧ nx1.length = 3 ∧ us1[q]? = some (some (pp, po)) ∧ POI po ∧ Post.tellStep B q nt more ⟨L, us2 us, nx, inn, chg, most, wk.map (·.2), ph, got, ss.map (·.2)⟩ = Post.tellGo B q po ⟨L, us2 us1, nx1, inn, chg, most, wk.map (·.2), ph, got, ss.map (·.2)⟩ ∧ HasSl Try.f15.ntmps [(0, ptr p 0), (1, I64 q)] act ∧ St W0 (postA X B pp po :: ocel p X (S3 a1 c1) (S3 a2 c2) (S3 a3 c3) inn chg most (uP wk) ph got (.slice a4 ss.length c4) :: own (S3 a1 c1) 29 1 3 (us1.map uP) :: own (S3 a2 c2) 4 1 3 (nts1.map Value.bool) :: own (S3 a3 c3) 31 1 3 (nx1.map U64) :: fam ((us1.map (uA X B)).set q emp) :: uA X B wk :: ofs (.slice a4 ss.length c4) 29 ss.length (ss.map qp) :: fam (ss.map (qa X B)) :: envA X B L t :: R) wo) ?_ ?_
  ·
    refine g_seq ?_
    refine g_region ?_
    refine gl_v rfl (o_move rfl) ?_
    refine gl_v rfl (o_nil rfl) ?_
    first | refine gl_v rfl (o_fldS rfl) ?_ | refine gl_v rfl (o_fld rfl) ?_
    first | refine gl_v rfl (o_load rfl rfl) ?_ | refine gl_v rfl (o_loadS rfl rfl) ?_ | refine gl_v rfl (o_loadC rfl) ?_
    refine gl_v rfl (o_move rfl) ?_
    refine gl_v rfl (o_idxS rfl rfl hq) ?_
    refine gl_v rfl (o_loadS rfl (show (us.map uP)[q * 1]? = some (uP u) by rw [Nat.mul_one]; exact map_at' hu)) ?_
    refine gl_v rfl (o_eqlU rfl rfl) ?_
    refine gl_nil ?_
    refine ge_then ?_
    refine g_cond rfl (fun hc1 => ?_) (fun hc1 => ?_)
    ·
      first | replace hc1 := of_decide_eq_true hc1 | replace hc1 := lt_f hc1 | replace hc1 := le_f hc1 | replace hc1 := dec_f hc1 | replace hc1 := nlt_t hc1 | replace hc1 := nle_t hc1 | replace hc1 := ndec_t hc1 | replace hc1 := ndec_f hc1 | replace hc1 := nn_t hc1 | replace hc1 := nn_f hc1 | skip
      obtain rfl : u = none := by
        cases u with
        | none => rfl
        | some x => cases hc1
      replace hug : (us2 us).getD q none = none := hug
      refine g_seq ?_
      refine g_seq ?_
      refine g_region ?_
      refine gl_v rfl (o_move rfl) ?_
      refine gl_v rfl (o_not rfl) ?_
      refine gl_nil ?_
      refine ge_then ?_
      refine g_cond rfl (fun hc2 => ?_) (fun hc2 => ?_)
      ·
        first | replace hc2 := of_decide_eq_true hc2 | replace hc2 := lt_f hc2 | replace hc2 := le_f hc2 | replace hc2 := dec_f hc2 | replace hc2 := nlt_t hc2 | replace hc2 := nle_t hc2 | replace hc2 := ndec_t hc2 | replace hc2 := ndec_f hc2 | replace hc2 := nn_t hc2 | replace hc2 := nn_f hc2 | skip
        have hmore : more = false := hc2
        refine g_ret ?_
        refine ge_then_ret ?_
        refine ge_then_ret ?_
        refine ret0 (.inl rfl) rfl [offA p X B (Post.tellStep B q nt more ⟨L, us2 us, nx, inn, chg, most, wk.map (·.2), ph, got, ss.map (·.2)⟩) t] (⟨rfl, _, rfl⟩) (by rw [hmore, ts_no hug]; exact off_close a1 c1 a2 c2 a3 c3 a4 c4 us nts wk ss hul hnl hxl (by simp only [offL, List.cons_append, List.nil_append]; exact (To.sat (by repeat (first | exact .nil | exact .done .refl | (apply To.cons; · (repeat (first | exact .head | apply Sel.tail))) | exact .done (by repeat (first | exact .refl | apply Drop.skip)))))))
      ·
        first | replace hc2 := of_decide_eq_true hc2 | replace hc2 := lt_f hc2 | replace hc2 := le_f hc2 | replace hc2 := dec_f hc2 | replace hc2 := nlt_t hc2 | replace hc2 := nle_t hc2 | replace hc2 := ndec_t hc2 | replace hc2 := ndec_f hc2 | replace hc2 := nn_t hc2 | replace hc2 := nn_f hc2 | skip
        have hmore : more = true := hc2
        refine g_skip ?_
        refine ge_then ?_
        refine g_seq ?_
        refine g_region ?_
        refine gl_v rfl (o_move rfl) ?_
        refine gl_v rfl (o_nil rfl) ?_
        first | refine gl_v rfl (o_fldS rfl) ?_ | refine gl_v rfl (o_fld rfl) ?_
        first | refine gl_v rfl (o_load rfl rfl) ?_ | refine gl_v rfl (o_loadS rfl rfl) ?_ | refine gl_v rfl (o_loadC rfl) ?_
        refine gl_v rfl (o_move rfl) ?_
        refine gl_v rfl (o_idxS rfl rfl hq) ?_
        refine gl_v rfl (o_loadS rfl (map_at (d := 0) (by omega))) ?_
        refine gl_v rfl (o_addR (nx.getD q 0 + 1) (wr_u64 (by omega)) rfl rfl) ?_
        refine gl_v rfl (o_idxS rfl rfl hq) ?_
        refine gl_u (o_storeS rfl rfl rfl (by simp [hxl]; omega)) ?_
        rw [map_set1]
        refine gl_nil ?_
        refine ge_then ?_
        refine g_seq ?_
        refine g_region ?_
        refine gl_v rfl (o_move rfl) ?_
        refine gl_v rfl (o_nil rfl) ?_
        first | refine gl_v rfl (o_fldS rfl) ?_ | refine gl_v rfl (o_fld rfl) ?_
        first | refine gl_v rfl (o_load rfl rfl) ?_ | refine gl_v rfl (o_loadS rfl rfl) ?_ | refine gl_v rfl (o_loadC rfl) ?_
        refine gl_v rfl (o_move rfl) ?_
        refine gl_v rfl (o_move rfl) ?_
        refine gl_v rfl (o_idxS rfl rfl hq) ?_
        refine gl_u (o_storeS rfl rfl rfl (by simp [hnl]; omega)) ?_
        rw [map_set1]
        refine gl_nil ?_
        refine ge_then ?_
        refine g_seq ?_
        refine g_draw [16, 18] [16] [(0, .stab), (1, .stab), (2, .stab), (3, .stab), (4, .stab), (5, .loc), (6, .loc), (7, .loc), (8, .loc), (9, .loc), (10, .loc), (11, .loc), (12, .loc), (13, .loc), (14, .loc), (15, .loc), (16, .eff), (17, .loc), (18, .eff)] [own (S3 a3 c3) 31 1 3 ((nx.set q (nx.getD q 0 + 1)).map U64), ocel p X (S3 a1 c1) (S3 a2 c2) (S3 a3 c3) inn chg most (uP wk) ph got (.slice a4 ss.length c4)] mixed (by kernel_rfl) ?_
        refine go_vs rfl .none rfl (o_move rfl) (To.sat (by repeat (first | exact .nil | exact .done .refl | (apply To.cons; · (repeat (first | exact .head | apply Sel.tail))) | exact .done (by repeat (first | exact .refl | apply Drop.skip))))) ?_
        refine go_vs rfl .none rfl (o_nil rfl) (To.sat (by repeat (first | exact .nil | exact .done .refl | (apply To.cons; · (repeat (first | exact .head | apply Sel.tail))) | exact .done (by repeat (first | exact .refl | apply Drop.skip))))) ?_
        first | refine go_vs rfl .none rfl (o_fldS rfl) (To.sat (by repeat (first | exact .nil | exact .done .refl | (apply To.cons; · (repeat (first | exact .head | apply Sel.tail))) | exact .done (by repeat (first | exact .refl | apply Drop.skip))))) ?_ | refine go_vs rfl .none rfl (o_fld rfl) (To.sat (by repeat (first | exact .nil | exact .done .refl | (apply To.cons; · (repeat (first | exact .head | apply Sel.tail))) | exact .done (by repeat (first | exact .refl | apply Drop.skip))))) ?_
        first | refine go_vs rfl .none rfl (o_load rfl rfl) (To.sat (by repeat (first | exact .nil | exact .done .refl | (apply To.cons; · (repeat (first | exact .head | apply Sel.tail))) | exact .done (by repeat (first | exact .refl | apply Drop.skip))))) ?_ | refine go_vs rfl .none rfl (o_loadS rfl rfl) (To.sat (by repeat (first | exact .nil | exact .done .refl | (apply To.cons; · (repeat (first | exact .head | apply Sel.tail))) | exact .done (by repeat (first | exact .refl | apply Drop.skip))))) ?_ | refine go_vs rfl .none rfl (o_loadC rfl) (To.sat (by repeat (first | exact .nil | exact .done .refl | (apply To.cons; · (repeat (first | exact .head | apply Sel.tail))) | exact .done (by repeat (first | exact .refl | apply Drop.skip))))) ?_
        refine go_vs rfl .none rfl (o_move rfl) (To.sat (by repeat (first | exact .nil | exact .done .refl | (apply To.cons; · (repeat (first | exact .head | apply Sel.tail))) | exact .done (by repeat (first | exact .refl | apply Drop.skip))))) ?_
        refine go_v rfl .none rfl (o_move rfl) ?_
        refine go_v rfl .none rfl (o_nil rfl) ?_
        first | refine go_v rfl .none rfl (o_fldS rfl) ?_ | refine go_v rfl .none rfl (o_fld rfl) ?_
        first | refine go_v rfl .none rfl (o_load rfl rfl) ?_ | refine go_v rfl .none rfl (o_loadS rfl rfl) ?_ | refine go_v rfl .none rfl (o_loadC rfl) ?_
        refine go_v rfl .none rfl (o_move rfl) ?_
        refine go_v rfl .none rfl (o_nil rfl) ?_
        first | refine go_v rfl .none rfl (o_fldS rfl) ?_ | refine go_v rfl .none rfl (o_fld rfl) ?_
        first | refine go_v rfl .none rfl (o_load rfl rfl) ?_ | refine go_v rfl .none rfl (o_loadS rfl rfl) ?_ | refine go_v rfl .none rfl (o_loadC rfl) ?_
        refine go_v rfl .none rfl (o_move rfl) ?_
        refine go_v rfl .none rfl (o_idxS rfl rfl hq) ?_
        refine go_v rfl .none rfl (o_loadS rfl (nxq (by omega))) ?_
        refine go_c rfl .none rfl (o_call rfl (fns_env (bTell_spec X B (nx.getD q 0 + 1))) (by repeat (first | exact .nil | (apply Part.cons; · (repeat (first | exact .head | apply Sel.tail)))))) ?_
        rintro _ R ⟨_, ⟨p1, rfl, rfl⟩, rfl⟩
        try simp only [List.cons_append, List.nil_append]
        refine ⟨(fun _ => (To.sat (by repeat (first | exact .nil | exact .done .refl | (apply To.cons; · (repeat (first | exact .head | apply Sel.tail))) | exact .done (by repeat (first | exact .refl | apply Drop.skip)))))), ?_⟩
        refine go_v rfl .none rfl (o_idxS rfl rfl hq) ?_
        refine go_u rfl .none (o_storeS rfl rfl rfl (by simp [hul]; omega)) (fun hG => absurd hG (by decide)) ?_
        rw [show ptr p1 0 = uP (some (p1, (⟨.put false (ini 0 (nx.getD q 0 + 1)), 0, 0⟩ : PO))) from rfl, usP]
        refine go_nil ?_
        refine ge_then ?_
        refine g_seq ?_
        refine g_region ?_
        refine gl_v rfl (o_move rfl) ?_
        refine gl_nil ?_
        refine ge_then ?_
        refine g_cond rfl (fun hc3 => ?_) (fun hc3 => ?_)
        ·
          first | replace hc3 := of_decide_eq_true hc3 | replace hc3 := lt_f hc3 | replace hc3 := le_f hc3 | replace hc3 := dec_f hc3 | replace hc3 := nlt_t hc3 | replace hc3 := nle_t hc3 | replace hc3 := ndec_t hc3 | replace hc3 := ndec_f hc3 | replace hc3 := nn_t hc3 | replace hc3 := nn_f hc3 | skip
          have hntv : nt = true := hc3
          refine g_draw [16, 18] [16] [(0, .stab), (1, .stab), (2, .stab), (3, .stab), (4, .stab), (5, .loc), (6, .loc), (7, .loc), (8, .loc), (9, .loc), (10, .loc), (11, .loc), (12, .loc), (13, .loc), (14, .loc), (15, .loc), (16, .eff), (17, .loc), (18, .eff)] [own (S3 a3 c3) 31 1 3 ((nx.set q (nx.getD q 0 + 1)).map U64), ocel p X (S3 a1 c1) (S3 a2 c2) (S3 a3 c3) inn chg most (uP wk) ph got (.slice a4 ss.length c4)] mixed (by kernel_rfl) ?_
          refine go_vs rfl .none rfl (o_move rfl) (To.sat (by repeat (first | exact .nil | exact .done .refl | (apply To.cons; · (repeat (first | exact .head | apply Sel.tail))) | exact .done (by repeat (first | exact .refl | apply Drop.skip))))) ?_
          refine go_vs rfl .none rfl (o_nil rfl) (To.sat (by repeat (first | exact .nil | exact .done .refl | (apply To.cons; · (repeat (first | exact .head | apply Sel.tail))) | exact .done (by repeat (first | exact .refl | apply Drop.skip))))) ?_
          first | refine go_vs rfl .none rfl (o_fldS rfl) (To.sat (by repeat (first | exact .nil | exact .done .refl | (apply To.cons; · (repeat (first | exact .head | apply Sel.tail))) | exact .done (by repeat (first | exact .refl | apply Drop.skip))))) ?_ | refine go_vs rfl .none rfl (o_fld rfl) (To.sat (by repeat (first | exact .nil | exact .done .refl | (apply To.cons; · (repeat (first | exact .head | apply Sel.tail))) | exact .done (by repeat (first | exact .refl | apply Drop.skip))))) ?_
          first | refine go_vs rfl .none rfl (o_load rfl rfl) (To.sat (by repeat (first | exact .nil | exact .done .refl | (apply To.cons; · (repeat (first | exact .head | apply Sel.tail))) | exact .done (by repeat (first | exact .refl | apply Drop.skip))))) ?_ | refine go_vs rfl .none rfl (o_loadS rfl rfl) (To.sat (by repeat (first | exact .nil | exact .done .refl | (apply To.cons; · (repeat (first | exact .head | apply Sel.tail))) | exact .done (by repeat (first | exact .refl | apply Drop.skip))))) ?_ | refine go_vs rfl .none rfl (o_loadC rfl) (To.sat (by repeat (first | exact .nil | exact .done .refl | (apply To.cons; · (repeat (first | exact .head | apply Sel.tail))) | exact .done (by repeat (first | exact .refl | apply Drop.skip))))) ?_
          refine go_vs rfl .none rfl (o_move rfl) (To.sat (by repeat (first | exact .nil | exact .done .refl | (apply To.cons; · (repeat (first | exact .head | apply Sel.tail))) | exact .done (by repeat (first | exact .refl | apply Drop.skip))))) ?_
          refine go_v rfl .none rfl (o_move rfl) ?_
          refine go_v rfl .none rfl (o_nil rfl) ?_
          first | refine go_v rfl .none rfl (o_fldS rfl) ?_ | refine go_v rfl .none rfl (o_fld rfl) ?_
          first | refine go_v rfl .none rfl (o_load rfl rfl) ?_ | refine go_v rfl .none rfl (o_loadS rfl rfl) ?_ | refine go_v rfl .none rfl (o_loadC rfl) ?_
          refine go_v rfl .none rfl (o_move rfl) ?_
          refine go_v rfl .none rfl (o_nil rfl) ?_
          first | refine go_v rfl .none rfl (o_fldS rfl) ?_ | refine go_v rfl .none rfl (o_fld rfl) ?_
          first | refine go_v rfl .none rfl (o_load rfl rfl) ?_ | refine go_v rfl .none rfl (o_loadS rfl rfl) ?_ | refine go_v rfl .none rfl (o_loadC rfl) ?_
          refine go_v rfl .none rfl (o_move rfl) ?_
          refine go_v rfl .none rfl (o_idxS rfl rfl hq) ?_
          refine go_v rfl .none rfl (o_loadS rfl (nxq (by omega))) ?_
          refine go_c rfl .none rfl (o_call rfl (fns_env (bPush_spec X B (nx.getD q 0 + 1))) (by repeat (first | exact .nil | (apply Part.cons; · (repeat (first | exact .head | apply Sel.tail)))))) ?_
          rintro _ R ⟨_, ⟨p2, rfl, rfl⟩, rfl⟩
          try simp only [List.cons_append, List.nil_append]
          refine ⟨(fun _ => (To.sat (by repeat (first | exact .nil | exact .done .refl | (apply To.cons; · (repeat (first | exact .head | apply Sel.tail))) | exact .done (by repeat (first | exact .refl | apply Drop.skip)))))), ?_⟩
          refine go_v rfl .none rfl (o_idxS rfl rfl hq) ?_
          refine go_u rfl .none (o_storeS rfl rfl rfl (by simp [hul]; omega)) (fun hG => absurd hG (by decide)) ?_
          rw [show ptr p2 0 = uP (some (p2, (⟨.put true (ini 0 (nx.getD q 0 + 1)), 0, 0⟩ : PO))) from rfl, usP, List.set_set]
          refine go_nil ?_
          exact fun act wo hsl st => ⟨us.set q (some (p2, (⟨.put true (ini 0 (nx.getD q 0 + 1)), 0, 0⟩ : PO))), nts.set q nt, nx.set q (nx.getD q 0 + 1), p2, ⟨.put true (ini 0 (nx.getD q 0 + 1)), 0, 0⟩, by simp [hul], by simp [hnl], by simp [hxl], List.getElem?_set_self (by omega), POI_begin _ (by omega), (by rw [hmore, hntv, ts_new hug ((some (p2, (⟨.put true (ini 0 (nx.getD q 0 + 1)), 0, 0⟩ : PO))).map (·.2)), ← us_set]), hsl.keep (Keep.cons rfl (Keep.cons rfl (Keep.nil))), st.imp (by rw [famq hu]; exact (To.sat (by repeat (first | exact .nil | exact .done .refl | (apply To.cons; · (repeat (first | exact .head | apply Sel.tail))) | exact .done (by repeat (first | exact .refl | apply Drop.skip))))))⟩
        ·
          first | replace hc3 := of_decide_eq_true hc3 | replace hc3 := lt_f hc3 | replace hc3 := le_f hc3 | replace hc3 := dec_f hc3 | replace hc3 := nlt_t hc3 | replace hc3 := nle_t hc3 | replace hc3 := ndec_t hc3 | replace hc3 := ndec_f hc3 | replace hc3 := nn_t hc3 | replace hc3 := nn_f hc3 | skip
          have hntv : nt = false := hc3
          refine g_skip ?_
          exact fun act wo hsl st => ⟨us.set q (some (p1, (⟨.put false (ini 0 (nx.getD q 0 + 1)), 0, 0⟩ : PO))), nts.set q nt, nx.set q (nx.getD q 0 + 1), p1, ⟨.put false (ini 0 (nx.getD q 0 + 1)), 0, 0⟩, by simp [hul], by simp [hnl], by simp [hxl], List.getElem?_set_self (by omega), POI_begin _ (by omega), (by rw [hmore, hntv, ts_new hug ((some (p1, (⟨.put false (ini 0 (nx.getD q 0 + 1)), 0, 0⟩ : PO))).map (·.2)), ← us_set]), hsl.keep (Keep.cons rfl (Keep.cons rfl (Keep.nil))), st.imp (by rw [famq hu]; exact (To.sat (by repeat (first | exact .nil | exact .done .refl | (apply To.cons; · (repeat (first | exact .head | apply Sel.tail))) | exact .done (by repeat (first | exact .refl | apply Drop.skip))))))⟩
    ·
      first | replace hc1 := of_decide_eq_true hc1 | replace hc1 := lt_f hc1 | replace hc1 := le_f hc1 | replace hc1 := dec_f hc1 | replace hc1 := nlt_t hc1 | replace hc1 := nle_t hc1 | replace hc1 := ndec_t hc1 | replace hc1 := ndec_f hc1 | replace hc1 := nn_t hc1 | replace hc1 := nn_f hc1 | skip
      obtain ⟨⟨pp, po⟩, rfl⟩ : ∃ x, u = some x := by
        cases u with
        | none => cases hc1
        | some x => exact ⟨x, rfl⟩
      replace hug : (us2 us).getD q none = some po := hug
      refine g_skip ?_
      exact fun act wo hsl st => ⟨us, nts, nx, pp, po, hul, hnl, hxl, hu, hw.pok q hq po hug, ts_old hug, hsl.keep (Keep.cons rfl (Keep.cons rfl (Keep.nil))), st.imp (by intro h s; have s1 := fo (l := us.map (uA X B)) (i := q) (A := postA X B pp po) (by repeat (first | exact .head | apply Sel.tail)) (map_at' (f := uA X B) hu) h s; exact (To.sat (by repeat (first | exact .nil | exact .done .refl | (apply To.cons; · (repeat (first | exact .head | apply Sel.tail))) | exact .done (by repeat (first | exact .refl | apply Drop.skip))))) h s1)⟩
  ·
    rintro act wo ⟨us1, nts1, nx1, pp, po, hul1, hnl1, hxl1, hu1, hpo, htell, hsl, st⟩
    refine g_of ?_ hsl st
    clear hsl st act wo
    refine g_seq ?_
    refine g_seq ?_
    refine g_region ?_
    refine gl_v rfl (o_move rfl) ?_
    refine gl_v rfl (o_nil rfl) ?_
    first | refine gl_v rfl (o_fldS rfl) ?_ | refine gl_v rfl (o_fld rfl) ?_
    first | refine gl_v rfl (o_load rfl rfl) ?_ | refine gl_v rfl (o_loadS rfl rfl) ?_ | refine gl_v rfl (o_loadC rfl) ?_
    refine gl_v rfl (o_move rfl) ?_
    refine gl_v rfl (o_idxS rfl rfl hq) ?_
    refine gl_v rfl (o_loadS rfl (show (us1.map uP)[q * 1]? = some (ptr pp 0) by rw [Nat.mul_one]; exact map_at' hu1)) ?_
    refine gl_v rfl (o_nil rfl) ?_
    first | refine gl_v rfl (o_fldS rfl) ?_ | refine gl_v rfl (o_fld rfl) ?_
    refine gl_c rfl (o_call rfl (pstep_spec X B pp L t po hpi hpo) (by repeat (first | exact .nil | (apply Part.cons; · (repeat (first | exact .head | apply Sel.tail)))))) ?_
    rintro _ R ⟨_, ⟨rfl, rfl⟩, rfl⟩
    try simp only [List.cons_append, List.nil_append]
    refine gl_v rfl (o_not rfl) ?_
    refine gl_nil ?_
    refine ge_then ?_
    refine g_cond rfl (fun hc4 => ?_) (fun hc4 => ?_)
    ·
      first | replace hc4 := of_decide_eq_true hc4 | replace hc4 := lt_f hc4 | replace hc4 := le_f hc4 | replace hc4 := dec_f hc4 | replace hc4 := nlt_t hc4 | replace hc4 := nle_t hc4 | replace hc4 := ndec_t hc4 | replace hc4 := ndec_f hc4 | replace hc4 := nn_t hc4 | replace hc4 := nn_f hc4 | skip
      have hov : (goPO B L po).over = false := hc4
      refine g_ret ?_
      refine ge_then_ret ?_
      refine ge_imp (fs (A := postA X B pp (goPO B L po)) (i := q) (l := us1.map (uA X B)) .head (.tail (.tail (.tail (.tail (.tail .head))))) (by simp [hul1, hq])) ?_
      refine ret0 (.inl rfl) rfl  [offA p X B (Post.tellStep B q nt more ⟨L, us2 us, nx, inn, chg, most, wk.map (·.2), ph, got, ss.map (·.2)⟩) (if po.over then t else tup t)] ⟨rfl, _, rfl⟩ ?_
      rw [htell, tg_go hov, show (us2 us1).set q (some (goPO B L po)) = us2 (us1.set q (some (pp, (goPO B L po)))) from (us_set (some (pp, (goPO B L po)))).symm]
      exact off_close a1 c1 a2 c2 a3 c3 a4 c4 (us1.set q (some (pp, (goPO B L po)))) nts1 wk ss (by simp [hul1]) hnl1 hxl1 (by simp only [offL, List.cons_append, List.nil_append]; rw [usP_same hu1, ← fams]; exact (To.sat (by repeat (first | exact .nil | exact .done .refl | (apply To.cons; · (repeat (first | exact .head | apply Sel.tail))) | exact .done (by repeat (first | exact .refl | apply Drop.skip))))))
    ·
      first | replace hc4 := of_decide_eq_true hc4 | replace hc4 := lt_f hc4 | replace hc4 := le_f hc4 | replace hc4 := dec_f hc4 | replace hc4 := nlt_t hc4 | replace hc4 := nle_t hc4 | replace hc4 := ndec_t hc4 | replace hc4 := ndec_f hc4 | replace hc4 := nn_t hc4 | replace hc4 := nn_f hc4 | skip
      have hov : (goPO B L po).over = true := hc4
      refine g_skip ?_
      refine ge_then ?_
      refine g_seq ?_
      refine g_region ?_
      refine gl_v rfl (o_move rfl) ?_
      refine gl_v rfl (o_nil rfl) ?_
      first | refine gl_v rfl (o_fldS rfl) ?_ | refine gl_v rfl (o_fld rfl) ?_
      first | refine gl_v rfl (o_load rfl rfl) ?_ | refine gl_v rfl (o_loadS rfl rfl) ?_ | refine gl_v rfl (o_loadC rfl) ?_
      refine gl_v rfl (o_move rfl) ?_
      refine gl_v rfl (o_idxS rfl rfl hq) ?_
      refine gl_v rfl (o_loadS rfl (show (us1.map uP)[q * 1]? = some (ptr pp 0) by rw [Nat.mul_one]; exact map_at' hu1)) ?_
      refine gl_v rfl (o_nil rfl) ?_
      first | refine gl_v rfl (o_fldS rfl) ?_ | refine gl_v rfl (o_fld rfl) ?_
      refine gl_c rfl (o_call rfl (pOut_spec X B pp (goPO B L po)) (by repeat (first | exact .nil | (apply Part.cons; · (repeat (first | exact .head | apply Sel.tail)))))) ?_
      rintro _ R ⟨_, ⟨rfl, rfl⟩, rfl⟩
      try simp only [List.cons_append, List.nil_append]
      refine gl_v rfl (o_assign rfl) ?_
      refine gl_nil ?_
      refine ge_then ?_
      refine g_cut (fun act wo => ∃ i1 : Int, i1 = (if (goPO B L po).out = 1 ∨ (goPO B L po).out = 7 then inn + 1 else inn) ∧ HasSl Try.f15.ntmps [(8, I64 (goPO B L po).out), (0, ptr p 0), (1, I64 q)] act ∧ St W0 (postA X B pp (goPO B L po) :: ocel p X (S3 a1 c1) (S3 a2 c2) (S3 a3 c3) i1 chg most (uP wk) ph got (.slice a4 ss.length c4) :: own (S3 a1 c1) 29 1 3 (us1.map uP) :: own (S3 a2 c2) 4 1 3 (nts1.map Value.bool) :: own (S3 a3 c3) 31 1 3 (nx1.map U64) :: fam ((us1.map (uA X B)).set q emp) :: uA X B wk :: ofs (.slice a4 ss.length c4) 29 ss.length (ss.map qp) :: fam (ss.map (qa X B)) :: envA X B (goPL B L po) (if po.over then t else tup t) :: R) wo) ?_ ?_
      ·
        refine g_seq ?_
        refine g_region ?_
        refine gl_v rfl (o_move rfl) ?_
        refine gl_v rfl (o_eql rfl rfl) ?_
        refine gl_v rfl (o_move rfl) ?_
        refine gl_g rfl rfl (fun hc5 => ?_) (fun hc5 => ?_) rfl
        ·
          have hc5' := hc5
          first | replace hc5' := of_decide_eq_true hc5' | replace hc5' := lt_f hc5' | replace hc5' := le_f hc5' | replace hc5' := dec_f hc5' | replace hc5' := nlt_t hc5' | replace hc5' := nle_t hc5' | replace hc5' := ndec_t hc5' | replace hc5' := ndec_f hc5' | replace hc5' := nn_t hc5' | replace hc5' := nn_f hc5' | skip
          refine gl_v rfl (o_move rfl) ?_
          refine gl_gT rfl rfl hc5 ?_
          refine gl_v rfl (o_eql rfl rfl) ?_
          refine gl_v rfl (o_pickF hc5 rfl rfl) ?_
          refine gl_nil ?_
          refine ge_then ?_
          refine g_cond rfl (fun hc6 => ?_) (fun hc6 => ?_)
          ·
            first | replace hc6 := of_decide_eq_true hc6 | replace hc6 := lt_f hc6 | replace hc6 := le_f hc6 | replace hc6 := dec_f hc6 | replace hc6 := nlt_t hc6 | replace hc6 := nle_t hc6 | replace hc6 := ndec_t hc6 | replace hc6 := ndec_f hc6 | replace hc6 := nn_t hc6 | replace hc6 := nn_f hc6 | skip
            refine g_region ?_
            refine gl_v rfl (o_move rfl) ?_
            refine gl_v rfl (o_nil rfl) ?_
            first | refine gl_v rfl (o_fldS rfl) ?_ | refine gl_v rfl (o_fld rfl) ?_
            first | refine gl_v rfl (o_load rfl rfl) ?_ | refine gl_v rfl (o_loadS rfl rfl) ?_ | refine gl_v rfl (o_loadC rfl) ?_
            refine gl_v rfl (o_addR (inn + 1) (wr_i64 (by omega)) rfl rfl) ?_
            refine gl_v rfl (o_nil rfl) ?_
            first | refine gl_v rfl (o_fldS rfl) ?_ | refine gl_v rfl (o_fld rfl) ?_
            first | refine gl_u (o_store rfl rfl rfl rfl) ?_ | refine gl_u (o_storeS rfl rfl rfl (by first | assumption | omega | simp)) ?_
            refine gl_nil ?_
            exact fun act wo hsl st => ⟨inn + 1, (by rw [if_pos (by omega)]), hsl.keep (Keep.cons rfl (Keep.cons rfl (Keep.cons rfl (Keep.nil)))), st.imp (To.sat (by repeat (first | exact .nil | exact .done .refl | (apply To.cons; · (repeat (first | exact .head | apply Sel.tail))) | exact .done (by repeat (first | exact .refl | apply Drop.skip)))))⟩
          ·
            first | replace hc6 := of_decide_eq_true hc6 | replace hc6 := lt_f hc6 | replace hc6 := le_f hc6 | replace hc6 := dec_f hc6 | replace hc6 := nlt_t hc6 | replace hc6 := nle_t hc6 | replace hc6 := ndec_t hc6 | replace hc6 := ndec_f hc6 | replace hc6 := nn_t hc6 | replace hc6 := nn_f hc6 | skip
            refine g_skip ?_
            exact fun act wo hsl st => ⟨inn, (by rw [if_neg (by omega)]), hsl.keep (Keep.cons rfl (Keep.cons rfl (Keep.cons rfl (Keep.nil)))), st.imp (To.sat (by repeat (first | exact .nil | exact .done .refl | (apply To.cons; · (repeat (first | exact .head | apply Sel.tail))) | exact .done (by repeat (first | exact .refl | apply Drop.skip)))))⟩
        ·
          have hc5' := hc5
          first | replace hc5' := of_decide_eq_true hc5' | replace hc5' := lt_f hc5' | replace hc5' := le_f hc5' | replace hc5' := dec_f hc5' | replace hc5' := nlt_t hc5' | replace hc5' := nle_t hc5' | replace hc5' := ndec_t hc5' | replace hc5' := ndec_f hc5' | replace hc5' := nn_t hc5' | replace hc5' := nn_f hc5' | skip
          simp only [putO]
          refine gl_gF rfl rfl hc5 rfl ?_
          refine gl_v rfl (o_pickT hc5 rfl rfl) ?_
          refine gl_nil ?_
          refine ge_then ?_
          refine g_cond_true rfl ?_
          refine g_region ?_
          refine gl_v rfl (o_move rfl) ?_
          refine gl_v rfl (o_nil rfl) ?_
          first | refine gl_v rfl (o_fldS rfl) ?_ | refine gl_v rfl (o_fld rfl) ?_
          first | refine gl_v rfl (o_load rfl rfl) ?_ | refine gl_v rfl (o_loadS rfl rfl) ?_ | refine gl_v rfl (o_loadC rfl) ?_
          refine gl_v rfl (o_addR (inn + 1) (wr_i64 (by omega)) rfl rfl) ?_
          refine gl_v rfl (o_nil rfl) ?_
          first | refine gl_v rfl (o_fldS rfl) ?_ | refine gl_v rfl (o_fld rfl) ?_
          first | refine gl_u (o_store rfl rfl rfl rfl) ?_ | refine gl_u (o_storeS rfl rfl rfl (by first | assumption | omega | simp)) ?_
          refine gl_nil ?_
          exact fun act wo hsl st => ⟨inn + 1, (by rw [if_pos (by omega)]), hsl.keep (Keep.cons rfl (Keep.cons rfl (Keep.cons rfl (Keep.nil)))), st.imp (To.sat (by repeat (first | exact .nil | exact .done .refl | (apply To.cons; · (repeat (first | exact .head | apply Sel.tail))) | exact .done (by repeat (first | exact .refl | apply Drop.skip)))))⟩
      ·
        rintro act wo ⟨i1, hi1, hsl, st⟩
        refine g_of ?_ hsl st
        clear hsl st act wo
        refine g_seq ?_
        refine g_seq ?_
        refine g_region ?_
        refine gl_v rfl (o_move rfl) ?_
        refine gl_v rfl (o_eql rfl rfl) ?_
        refine gl_nil ?_
        refine ge_then ?_
        refine g_cond rfl (fun hc7 => ?_) (fun hc7 => ?_)
        ·
          first | replace hc7 := of_decide_eq_true hc7 | replace hc7 := lt_f hc7 | replace hc7 := le_f hc7 | replace hc7 := dec_f hc7 | replace hc7 := nlt_t hc7 | replace hc7 := nle_t hc7 | replace hc7 := ndec_t hc7 | replace hc7 := ndec_f hc7 | replace hc7 := nn_t hc7 | replace hc7 := nn_f hc7 | skip
          have h7 : (goPO B L po).out = 7 := hc7
          refine g_region ?_
          refine gl_v rfl (o_move rfl) ?_
          refine gl_c rfl (o_call rfl (charge_spec p X _ _ _ _ _ i1 chg most ph got (by omega)) (by repeat (first | exact .nil | (apply Part.cons; · (repeat (first | exact .head | apply Sel.tail)))))) ?_
          rintro _ R ⟨_, ⟨rfl, rfl⟩, rfl⟩
          try simp only [List.cons_append, List.nil_append]
          refine gl_nil ?_
          refine ge_then ?_
          refine g_region ?_
          refine gl_v rfl (o_move rfl) ?_
          refine gl_v rfl (o_nil rfl) ?_
          first | refine gl_v rfl (o_fldS rfl) ?_ | refine gl_v rfl (o_fld rfl) ?_
          first | refine gl_v rfl (o_load rfl rfl) ?_ | refine gl_v rfl (o_loadS rfl rfl) ?_ | refine gl_v rfl (o_loadC rfl) ?_
          refine gl_v rfl (o_move rfl) ?_
          refine gl_v rfl (o_idxS rfl rfl hq) ?_
          refine gl_u (o_storeS rfl rfl rfl (by simp [hul1]; omega)) ?_
          rw [show Value.pointer none = uP none from rfl, usP]
          refine gl_nil ?_
          refine ret0 (.inr rfl) rfl [offA p X B (Post.tellStep B q nt more ⟨L, us2 us, nx, inn, chg, most, wk.map (·.2), ph, got, ss.map (·.2)⟩) (if po.over then t else tup t)] (⟨rfl, _, rfl⟩) (by rw [htell, tg_y hov h7 hi1, show (us2 us1).set q none = us2 (us1.set q none) from (us_set none).symm]; exact off_close a1 c1 a2 c2 a3 c3 a4 c4 (us1.set q none) nts1 wk ss (by simp [hul1]) hnl1 hxl1 (by simp only [offL, List.cons_append, List.nil_append]; rw [← fams]; exact (To.sat (by repeat (first | exact .nil | exact .done .refl | (apply To.cons; · (repeat (first | exact .head | apply Sel.tail))) | exact .done (by repeat (first | exact .refl | apply Drop.skip)))))))
        ·
          first | replace hc7 := of_decide_eq_true hc7 | replace hc7 := lt_f hc7 | replace hc7 := le_f hc7 | replace hc7 := dec_f hc7 | replace hc7 := nlt_t hc7 | replace hc7 := nle_t hc7 | replace hc7 := ndec_t hc7 | replace hc7 := ndec_f hc7 | replace hc7 := nn_t hc7 | replace hc7 := nn_f hc7 | skip
          have h7 : (goPO B L po).out ≠ 7 := hc7
          refine g_skip ?_
          refine ge_then ?_
          refine g_region ?_
          refine gl_v rfl (o_move rfl) ?_
          refine gl_v rfl (o_nil rfl) ?_
          first | refine gl_v rfl (o_fldS rfl) ?_ | refine gl_v rfl (o_fld rfl) ?_
          first | refine gl_v rfl (o_load rfl rfl) ?_ | refine gl_v rfl (o_loadS rfl rfl) ?_ | refine gl_v rfl (o_loadC rfl) ?_
          refine gl_v rfl (o_move rfl) ?_
          refine gl_v rfl (o_idxS rfl rfl hq) ?_
          refine gl_u (o_storeS rfl rfl rfl (by simp [hul1]; omega)) ?_
          rw [show Value.pointer none = uP none from rfl, usP]
          refine gl_nil ?_
          refine ret0 (.inr rfl) rfl [offA p X B (Post.tellStep B q nt more ⟨L, us2 us, nx, inn, chg, most, wk.map (·.2), ph, got, ss.map (·.2)⟩) (if po.over then t else tup t)] (⟨rfl, _, rfl⟩) (by rw [htell, tg_n hov h7 hi1, show (us2 us1).set q none = us2 (us1.set q none) from (us_set none).symm]; exact off_close a1 c1 a2 c2 a3 c3 a4 c4 (us1.set q none) nts1 wk ss (by simp [hul1]) hnl1 hxl1 (by simp only [offL, List.cons_append, List.nil_append]; rw [← fams]; exact (To.sat (by repeat (first | exact .nil | exact .done .refl | (apply To.cons; · (repeat (first | exact .head | apply Sel.tail))) | exact .done (by repeat (first | exact .refl | apply Drop.skip)))))))

set_option maxHeartbeats 1000000 in
set_option maxRecDepth 8000 in
theorem run_spec (p : Nat) (X : BX) (B : PB) (w : OW) (t : Int) (hw : OkW B w) : FnS Try.prog 16 [ptr p 0] [offA p X B w t] (fun u Bs => u = .bool (Post.runStep B w).2 ∧ ∃ t', Bs = [offA p X B (Post.runStep B w).1 t']) := by
  refine fn_body Try.func16 rfl rfl rfl ?_
  intro W0 R
  simp only [List.zipIdx_cons, List.zipIdx_nil, List.map_cons, List.map_nil, Nat.zero_add, Nat.reduceAdd, List.cons_append, List.nil_append]
  obtain ⟨L, ts, nx, inn, chg, most, wk0, ph, got, se⟩ := w
  refine g_open (l := offL p X B _ t) (by repeat (first | exact .head | apply Sel.tail)) ?_
  rintro ⟨a1, c1, a2, c2, a3, c3, a4, c4, us, nts, wk, ss⟩ ⟨hul, hnl, hxl, hts, hwk, hse⟩
  replace hul : us.length = 3 := hul
  replace hnl : nts.length = 3 := hnl
  replace hxl : nx.length = 3 := hxl
  obtain rfl : us2 us = ts := hts
  obtain rfl : wk.map (·.2) = wk0 := hwk
  obtain rfl : ss.map (·.2) = se := hse
  have hpi : PI B L := hw.pi
  have hli : LI L := hw.li
  have hinn : -10 ≤ inn ∧ inn ≤ 1000000 := hw.inn
  have hchg : 0 ≤ chg ∧ chg ≤ 1 := hw.chg
  have hph : 0 ≤ ph ∧ ph ≤ 3 := hw.ph
  have hgot : 0 ≤ got ∧ got ≤ 1000000 := hw.got
  have hfew : ss.length ≤ 1000 := by have := hw.few; simpa using this
  simp only [offL, List.cons_append, List.nil_append]
  refine g_seq ?_
  refine g_region ?_
  refine gl_v rfl (o_assign rfl) ?_
  refine gl_nil ?_
  refine ge_then ?_
  refine g_seq ?_
  refine g_seq ?_
  refine g_region ?_
  refine gl_v rfl (o_move rfl) ?_
  refine gl_v rfl (o_nil rfl) ?_
  first | refine gl_v rfl (o_fldS rfl) ?_ | refine gl_v rfl (o_fld rfl) ?_
  first | refine gl_v rfl (o_load rfl rfl) ?_ | refine gl_v rfl (o_loadS rfl rfl) ?_ | refine gl_v rfl (o_loadC rfl) ?_
  refine gl_v rfl (o_eql rfl rfl) ?_
  refine gl_nil ?_
  refine ge_then ?_
  refine g_cond rfl (fun hc1 => ?_) (fun hc1 => ?_)
  ·
    first | replace hc1 := of_decide_eq_true hc1 | replace hc1 := lt_f hc1 | replace hc1 := le_f hc1 | replace hc1 := dec_f hc1 | replace hc1 := nlt_t hc1 | replace hc1 := nle_t hc1 | replace hc1 := ndec_t hc1 | replace hc1 := ndec_f hc1 | replace hc1 := nn_t hc1 | replace hc1 := nn_f hc1 | skip
    have h0 : chg = 0 := hc1
    refine g_seq ?_
    refine g_region ?_
    refine gl_v rfl (o_assign rfl) ?_
    refine gl_nil ?_
    refine ge_then ?_
    refine g_ret ?_
    refine ge_then_ret ?_
    refine ret1 (.inl rfl) rfl rfl [offA p X B (Post.runStep B ⟨L, us2 us, nx, inn, chg, most, wk.map (·.2), ph, got, ss.map (·.2)⟩).1 t] (⟨by rw [rs_0 h0], _, rfl⟩) (by rw [rs_0 h0]; exact off_close a1 c1 a2 c2 a3 c3 a4 c4 us nts wk ss hul hnl hxl (by simp only [offL, List.cons_append, List.nil_append]; exact (To.sat (by repeat (first | exact .nil | exact .done .refl | (apply To.cons; · (repeat (first | exact .head | apply Sel.tail))) | exact .done (by repeat (first | exact .refl | apply Drop.skip)))))))
  ·
    first | replace hc1 := of_decide_eq_true hc1 | replace hc1 := lt_f hc1 | replace hc1 := le_f hc1 | replace hc1 := dec_f hc1 | replace hc1 := nlt_t hc1 | replace hc1 := nle_t hc1 | replace hc1 := ndec_t hc1 | replace hc1 := ndec_f hc1 | replace hc1 := nn_t hc1 | replace hc1 := nn_f hc1 | skip
    have h0 : chg ≠ 0 := hc1
    refine g_skip ?_
    refine ge_then ?_
    refine g_seq ?_
    refine g_seq ?_
    refine g_region ?_
    refine gl_v rfl (o_move rfl) ?_
    refine gl_v rfl (o_nil rfl) ?_
    first | refine gl_v rfl (o_fldS rfl) ?_ | refine gl_v rfl (o_fld rfl) ?_
    first | refine gl_v rfl (o_load rfl rfl) ?_ | refine gl_v rfl (o_loadS rfl rfl) ?_ | refine gl_v rfl (o_loadC rfl) ?_
    refine gl_v rfl (o_eql rfl rfl) ?_
    refine gl_nil ?_
    refine ge_then ?_
    refine g_cond rfl (fun hc2 => ?_) (fun hc2 => ?_)
    ·
      first | replace hc2 := of_decide_eq_true hc2 | replace hc2 := lt_f hc2 | replace hc2 := le_f hc2 | replace hc2 := dec_f hc2 | replace hc2 := nlt_t hc2 | replace hc2 := nle_t hc2 | replace hc2 := ndec_t hc2 | replace hc2 := ndec_f hc2 | replace hc2 := nn_t hc2 | replace hc2 := nn_f hc2 | skip
      have h3 : ph = 3 := hc2
      refine g_seq ?_
      refine g_region ?_
      refine gl_v rfl (o_move rfl) ?_
      refine gl_v rfl (o_nil rfl) ?_
      first | refine gl_v rfl (o_fldS rfl) ?_ | refine gl_v rfl (o_fld rfl) ?_
      first | refine gl_v rfl (o_load rfl rfl) ?_ | refine gl_v rfl (o_loadS rfl rfl) ?_ | refine gl_v rfl (o_loadC rfl) ?_
      refine gl_c rfl (o_call rfl (fns_env (Settle_f X B)) (by repeat (first | exact .nil | (apply Part.cons; · (repeat (first | exact .head | apply Sel.tail)))))) ?_
      rintro _ R ⟨_, ⟨p3, rfl, rfl⟩, rfl⟩
      try simp only [List.cons_append, List.nil_append]
      refine gl_v rfl (o_assign rfl) ?_
      refine gl_nil ?_
      refine ge_then ?_
      refine g_seq ?_
      refine g_region ?_
      refine gl_v rfl (o_move rfl) ?_
      refine gl_v rfl (o_move rfl) ?_
      refine gl_v rfl (o_nil rfl) ?_
      first | refine gl_v rfl (o_fldS rfl) ?_ | refine gl_v rfl (o_fld rfl) ?_
      first | refine gl_v rfl (o_load rfl rfl) ?_ | refine gl_v rfl (o_loadS rfl rfl) ?_ | refine gl_v rfl (o_loadC rfl) ?_
      refine gl_v rfl (o_move rfl) ?_
      first | refine gl_n rfl (o_buildS1 rfl rfl rfl) ?_ | refine gl_n rfl (o_buildS1A rfl rfl rfl rfl) ?_ | refine gl_n rfl (o_buildS rfl rfl rfl rfl) ?_
      rintro _ _ ⟨b25, rfl, rfl⟩
      refine gl_n rfl (o_appendF rfl rfl (by repeat (first | exact .nil | (apply Part.cons; · (repeat (first | exact .head | apply Sel.tail))))) rfl (by omega) (by unfold maxLen; omega)) ?_
      rintro _ _ ⟨a26, c26, rfl, rfl⟩
      refine gl_v rfl (o_nil rfl) ?_
      first | refine gl_v rfl (o_fldS rfl) ?_ | refine gl_v rfl (o_fld rfl) ?_
      first | refine gl_u (o_store rfl rfl rfl rfl) ?_ | refine gl_u (o_storeS rfl rfl rfl (by first | assumption | omega | simp)) ?_
      refine gl_nil ?_
      refine ge_then ?_
      refine g_seq ?_
      refine g_region ?_
      refine gl_v rfl (o_move rfl) ?_
      refine gl_v rfl (o_nil rfl) ?_
      first | refine gl_v rfl (o_fldS rfl) ?_ | refine gl_v rfl (o_fld rfl) ?_
      first | refine gl_u (o_store rfl rfl rfl rfl) ?_ | refine gl_u (o_storeS rfl rfl rfl (by first | assumption | omega | simp)) ?_
      refine gl_nil ?_
      refine ge_then ?_
      refine g_seq ?_
      refine g_region ?_
      refine gl_v rfl (o_move rfl) ?_
      refine gl_v rfl (o_nil rfl) ?_
      first | refine gl_v rfl (o_fldS rfl) ?_ | refine gl_v rfl (o_fld rfl) ?_
      first | refine gl_v rfl (o_load rfl rfl) ?_ | refine gl_v rfl (o_loadS rfl rfl) ?_ | refine gl_v rfl (o_loadC rfl) ?_
      refine gl_v rfl (o_subR (chg - 1) (wr_i64 (by omega)) rfl rfl) ?_
      refine gl_v rfl (o_nil rfl) ?_
      first | refine gl_v rfl (o_fldS rfl) ?_ | refine gl_v rfl (o_fld rfl) ?_
      first | refine gl_u (o_store rfl rfl rfl rfl) ?_ | refine gl_u (o_storeS rfl rfl rfl (by first | assumption | omega | simp)) ?_
      refine gl_nil ?_
      refine ge_then ?_
      refine g_seq ?_
      refine g_region ?_
      refine gl_v rfl (o_move rfl) ?_
      refine gl_v rfl (o_nil rfl) ?_
      first | refine gl_v rfl (o_fldS rfl) ?_ | refine gl_v rfl (o_fld rfl) ?_
      refine gl_c rfl (o_call rfl (pstep_spec X B p3 L t (⟨.sto false, 0, 0⟩ : PO) hpi (fun _ => ⟨trivial, rfl⟩)) (by repeat (first | exact .nil | (apply Part.cons; · (repeat (first | exact .head | apply Sel.tail)))))) ?_
      rintro _ R ⟨_, ⟨rfl, rfl⟩, rfl⟩
      try simp only [List.cons_append, List.nil_append]
      refine gl_nil ?_
      refine ge_then ?_
      refine g_seq ?_
      refine g_region ?_
      refine gl_v rfl (o_assign rfl) ?_
      refine gl_nil ?_
      refine ge_then ?_
      refine g_ret ?_
      refine ge_then_ret ?_
      refine ret1 (.inl rfl) rfl rfl [offA p X B (Post.runStep B ⟨L, us2 us, nx, inn, chg, most, wk.map (·.2), ph, got, ss.map (·.2)⟩).1 _] (⟨by rw [rs_3 h0 h3], _, rfl⟩) (by rw [rs_3 h0 h3, show ss.map (·.2) ++ [goPO B L (⟨.sto false, 0, 0⟩ : PO)] = (ss ++ [(p3, goPO B L (⟨.sto false, 0, 0⟩ : PO))]).map (·.2) by simp]; exact off_close a1 c1 a2 c2 a3 c3 a26 c26 us nts wk (ss ++ [(p3, goPO B L (⟨.sto false, 0, 0⟩ : PO))]) hul hnl hxl (by simp only [offL, List.cons_append, List.nil_append, List.length_append, List.length_singleton, List.map_append, List.map_cons, List.map_nil]; intro h s; have s1 := fadd (l := ss.map (qa X B)) (A := postA X B p3 (goPO B L (⟨.sto false, 0, 0⟩ : PO))) (by repeat (first | exact .head | apply Sel.tail)) (by repeat (first | exact .head | apply Sel.tail)) h s; exact (To.sat (by repeat (first | exact .nil | exact .done .refl | (apply To.cons; · (repeat (first | exact .head | apply Sel.tail))) | exact .done (by repeat (first | exact .refl | apply Drop.skip))))) h s1))
    ·
      first | replace hc2 := of_decide_eq_true hc2 | replace hc2 := lt_f hc2 | replace hc2 := le_f hc2 | replace hc2 := dec_f hc2 | replace hc2 := nlt_t hc2 | replace hc2 := nle_t hc2 | replace hc2 := ndec_t hc2 | replace hc2 := ndec_f hc2 | replace hc2 := nn_t hc2 | replace hc2 := nn_f hc2 | skip
      have h3 : ph ≠ 3 := hc2
      refine g_skip ?_
      refine ge_then ?_
      refine g_cut (fun act wo => ∃ (pp : Nat) (po : PO), POI po ∧ (wk.map (·.2)).getD (workOf ph) = po ∧ HasSl Try.f16.ntmps [(0, ptr p 0)] act ∧ St W0 (postA X B pp po :: ocel p X (S3 a1 c1) (S3 a2 c2) (S3 a3 c3) inn chg most (ptr pp 0) ph got (.slice a4 ss.length c4) :: own (S3 a1 c1) 29 1 3 (us.map uP) :: own (S3 a2 c2) 4 1 3 (nts.map Value.bool) :: own (S3 a3 c3) 31 1 3 (nx.map U64) :: fam (us.map (uA X B)) :: ofs (.slice a4 ss.length c4) 29 ss.length (ss.map qp) :: fam (ss.map (qa X B)) :: envA X B L t :: R) wo) ?_ ?_
      ·
        refine g_seq ?_
        refine g_region ?_
        refine gl_v rfl (o_move rfl) ?_
        refine gl_v rfl (o_nil rfl) ?_
        first | refine gl_v rfl (o_fldS rfl) ?_ | refine gl_v rfl (o_fld rfl) ?_
        first | refine gl_v rfl (o_load rfl rfl) ?_ | refine gl_v rfl (o_loadS rfl rfl) ?_ | refine gl_v rfl (o_loadC rfl) ?_
        refine gl_v rfl (o_eqlU rfl rfl) ?_
        refine gl_nil ?_
        refine ge_then ?_
        refine g_cond rfl (fun hc3 => ?_) (fun hc3 => ?_)
        ·
          first | replace hc3 := of_decide_eq_true hc3 | replace hc3 := lt_f hc3 | replace hc3 := le_f hc3 | replace hc3 := dec_f hc3 | replace hc3 := nlt_t hc3 | replace hc3 := nle_t hc3 | replace hc3 := ndec_t hc3 | replace hc3 := ndec_f hc3 | replace hc3 := nn_t hc3 | replace hc3 := nn_f hc3 | skip
          obtain rfl : wk = none := by
            cases wk with
            | none => rfl
            | some x => cases hc3
          refine g_seq ?_
          refine g_region ?_
          refine gl_v rfl (o_move rfl) ?_
          refine gl_v rfl (o_nil rfl) ?_
          first | refine gl_v rfl (o_fldS rfl) ?_ | refine gl_v rfl (o_fld rfl) ?_
          first | refine gl_v rfl (o_load rfl rfl) ?_ | refine gl_v rfl (o_loadS rfl rfl) ?_ | refine gl_v rfl (o_loadC rfl) ?_
          refine gl_nil ?_
          refine ge_then ?_
          refine g_block ?_
          refine g_seq ?_
          refine g_region ?_
          refine gl_v rfl (o_eql rfl rfl) ?_
          refine gl_v rfl (o_assign rfl) ?_
          refine gl_nil ?_
          refine ge_then ?_
          refine g_cond rfl (fun hc4 => ?_) (fun hc4 => ?_)
          ·
            first | replace hc4 := of_decide_eq_true hc4 | replace hc4 := lt_f hc4 | replace hc4 := le_f hc4 | replace hc4 := dec_f hc4 | replace hc4 := nlt_t hc4 | replace hc4 := nle_t hc4 | replace hc4 := ndec_t hc4 | replace hc4 := ndec_f hc4 | replace hc4 := nn_t hc4 | replace hc4 := nn_f hc4 | skip
            have hph0 : ph = 0 := hc4
            refine g_region ?_
            refine gl_v rfl (o_move rfl) ?_
            refine gl_v rfl (o_move rfl) ?_
            refine gl_v rfl (o_nil rfl) ?_
            first | refine gl_v rfl (o_fldS rfl) ?_ | refine gl_v rfl (o_fld rfl) ?_
            first | refine gl_v rfl (o_load rfl rfl) ?_ | refine gl_v rfl (o_loadS rfl rfl) ?_ | refine gl_v rfl (o_loadC rfl) ?_
            refine gl_c rfl (o_call rfl (fns_env (bBegin_spec X B)) (by repeat (first | exact .nil | (apply Part.cons; · (repeat (first | exact .head | apply Sel.tail)))))) ?_
            rintro _ R ⟨_, ⟨p1, rfl, rfl⟩, rfl⟩
            try simp only [List.cons_append, List.nil_append]
            refine gl_v rfl (o_nil rfl) ?_
            first | refine gl_v rfl (o_fldS rfl) ?_ | refine gl_v rfl (o_fld rfl) ?_
            first | refine gl_u (o_store rfl rfl rfl rfl) ?_ | refine gl_u (o_storeS rfl rfl rfl (by first | assumption | omega | simp)) ?_
            refine gl_nil ?_
            refine ge_block ?_
            exact fun act wo hsl st => ⟨p1, ⟨.set 2, 0, 0⟩, (by have h := POI_work (ph := ph); rw [hph0] at h; exact h), (by rw [hph0]; rfl), hsl.keep (Keep.cons rfl (Keep.nil)), st.imp (To.sat (by repeat (first | exact .nil | exact .done .refl | (apply To.cons; · (repeat (first | exact .head | apply Sel.tail))) | exact .done (by repeat (first | exact .refl | apply Drop.skip)))))⟩
          ·
            first | replace hc4 := of_decide_eq_true hc4 | replace hc4 := lt_f hc4 | replace hc4 := le_f hc4 | replace hc4 := dec_f hc4 | replace hc4 := nlt_t hc4 | replace hc4 := nle_t hc4 | replace hc4 := ndec_t hc4 | replace hc4 := ndec_f hc4 | replace hc4 := nn_t hc4 | replace hc4 := nn_f hc4 | skip
            refine g_seq ?_
            refine g_region ?_
            refine gl_v rfl (o_eql rfl rfl) ?_
            refine gl_v rfl (o_assign rfl) ?_
            refine gl_nil ?_
            refine ge_then ?_
            refine g_cond rfl (fun hc5 => ?_) (fun hc5 => ?_)
            ·
              first | replace hc5 := of_decide_eq_true hc5 | replace hc5 := lt_f hc5 | replace hc5 := le_f hc5 | replace hc5 := dec_f hc5 | replace hc5 := nlt_t hc5 | replace hc5 := nle_t hc5 | replace hc5 := ndec_t hc5 | replace hc5 := ndec_f hc5 | replace hc5 := nn_t hc5 | replace hc5 := nn_f hc5 | skip
              have hph0 : ph = 1 := hc5
              refine g_region ?_
              refine gl_v rfl (o_move rfl) ?_
              refine gl_v rfl (o_move rfl) ?_
              refine gl_v rfl (o_nil rfl) ?_
              first | refine gl_v rfl (o_fldS rfl) ?_ | refine gl_v rfl (o_fld rfl) ?_
              first | refine gl_v rfl (o_load rfl rfl) ?_ | refine gl_v rfl (o_loadS rfl rfl) ?_ | refine gl_v rfl (o_loadC rfl) ?_
              refine gl_c rfl (o_call rfl (fns_env (bNote_spec X B)) (by repeat (first | exact .nil | (apply Part.cons; · (repeat (first | exact .head | apply Sel.tail)))))) ?_
              rintro _ R ⟨_, ⟨p1, rfl, rfl⟩, rfl⟩
              try simp only [List.cons_append, List.nil_append]
              refine gl_v rfl (o_nil rfl) ?_
              first | refine gl_v rfl (o_fldS rfl) ?_ | refine gl_v rfl (o_fld rfl) ?_
              first | refine gl_u (o_store rfl rfl rfl rfl) ?_ | refine gl_u (o_storeS rfl rfl rfl (by first | assumption | omega | simp)) ?_
              refine gl_nil ?_
              refine ge_block ?_
              exact fun act wo hsl st => ⟨p1, ⟨.of true (ini 5 0), 0, 0⟩, (by have h := POI_work (ph := ph); rw [hph0] at h; exact h), (by rw [hph0]; rfl), hsl.keep (Keep.cons rfl (Keep.nil)), st.imp (To.sat (by repeat (first | exact .nil | exact .done .refl | (apply To.cons; · (repeat (first | exact .head | apply Sel.tail))) | exact .done (by repeat (first | exact .refl | apply Drop.skip)))))⟩
            ·
              first | replace hc5 := of_decide_eq_true hc5 | replace hc5 := lt_f hc5 | replace hc5 := le_f hc5 | replace hc5 := dec_f hc5 | replace hc5 := nlt_t hc5 | replace hc5 := nle_t hc5 | replace hc5 := ndec_t hc5 | replace hc5 := ndec_f hc5 | replace hc5 := nn_t hc5 | replace hc5 := nn_f hc5 | skip
              have hph0 : ph = 2 := by omega
              refine g_region ?_
              refine gl_v rfl (o_move rfl) ?_
              refine gl_v rfl (o_move rfl) ?_
              refine gl_v rfl (o_nil rfl) ?_
              first | refine gl_v rfl (o_fldS rfl) ?_ | refine gl_v rfl (o_fld rfl) ?_
              first | refine gl_v rfl (o_load rfl rfl) ?_ | refine gl_v rfl (o_loadS rfl rfl) ?_ | refine gl_v rfl (o_loadC rfl) ?_
              refine gl_c rfl (o_call rfl (fns_env (bFetch_spec X B)) (by repeat (first | exact .nil | (apply Part.cons; · (repeat (first | exact .head | apply Sel.tail)))))) ?_
              rintro _ R ⟨_, ⟨p1, rfl, rfl⟩, rfl⟩
              try simp only [List.cons_append, List.nil_append]
              refine gl_v rfl (o_nil rfl) ?_
              first | refine gl_v rfl (o_fldS rfl) ?_ | refine gl_v rfl (o_fld rfl) ?_
              first | refine gl_u (o_store rfl rfl rfl rfl) ?_ | refine gl_u (o_storeS rfl rfl rfl (by first | assumption | omega | simp)) ?_
              refine gl_nil ?_
              refine ge_block ?_
              exact fun act wo hsl st => ⟨p1, ⟨.of false (ini 5 0), 0, 0⟩, (by have h := POI_work (ph := ph); rw [hph0] at h; exact h), (by rw [hph0]; rfl), hsl.keep (Keep.cons rfl (Keep.nil)), st.imp (To.sat (by repeat (first | exact .nil | exact .done .refl | (apply To.cons; · (repeat (first | exact .head | apply Sel.tail))) | exact .done (by repeat (first | exact .refl | apply Drop.skip)))))⟩
        ·
          first | replace hc3 := of_decide_eq_true hc3 | replace hc3 := lt_f hc3 | replace hc3 := le_f hc3 | replace hc3 := dec_f hc3 | replace hc3 := nlt_t hc3 | replace hc3 := nle_t hc3 | replace hc3 := ndec_t hc3 | replace hc3 := ndec_f hc3 | replace hc3 := nn_t hc3 | replace hc3 := nn_f hc3 | skip
          obtain ⟨⟨pp, po⟩, rfl⟩ : ∃ x, wk = some x := by
            cases wk with
            | none => cases hc3
            | some x => exact ⟨x, rfl⟩
          refine g_skip ?_
          exact fun act wo hsl st => ⟨pp, po, hw.wok po rfl, rfl, hsl.keep (Keep.cons rfl (Keep.nil)), st.imp (To.sat (by repeat (first | exact .nil | exact .done .refl | (apply To.cons; · (repeat (first | exact .head | apply Sel.tail))) | exact .done (by repeat (first | exact .refl | apply Drop.skip)))))⟩
      ·
        rintro act wo ⟨pp, po, hpo, hpw, hsl, st⟩
        refine g_of ?_ hsl st
        clear hsl st act wo
        refine g_seq ?_
        refine g_seq ?_
        refine g_region ?_
        refine gl_v rfl (o_move rfl) ?_
        refine gl_v rfl (o_nil rfl) ?_
        first | refine gl_v rfl (o_fldS rfl) ?_ | refine gl_v rfl (o_fld rfl) ?_
        first | refine gl_v rfl (o_load rfl rfl) ?_ | refine gl_v rfl (o_loadS rfl rfl) ?_ | refine gl_v rfl (o_loadC rfl) ?_
        refine gl_v rfl (o_nil rfl) ?_
        first | refine gl_v rfl (o_fldS rfl) ?_ | refine gl_v rfl (o_fld rfl) ?_
        refine gl_c rfl (o_call rfl (pstep_spec X B pp L t po hpi hpo) (by repeat (first | exact .nil | (apply Part.cons; · (repeat (first | exact .head | apply Sel.tail)))))) ?_
        rintro _ R ⟨_, ⟨rfl, rfl⟩, rfl⟩
        try simp only [List.cons_append, List.nil_append]
        refine gl_v rfl (o_not rfl) ?_
        refine gl_nil ?_
        refine ge_then ?_
        refine g_cond rfl (fun hc6 => ?_) (fun hc6 => ?_)
        ·
          first | replace hc6 := of_decide_eq_true hc6 | replace hc6 := lt_f hc6 | replace hc6 := le_f hc6 | replace hc6 := dec_f hc6 | replace hc6 := nlt_t hc6 | replace hc6 := nle_t hc6 | replace hc6 := ndec_t hc6 | replace hc6 := ndec_f hc6 | replace hc6 := nn_t hc6 | replace hc6 := nn_f hc6 | skip
          have hov : (goPO B L po).over = false := hc6
          refine g_seq ?_
          refine g_region ?_
          refine gl_v rfl (o_assign rfl) ?_
          refine gl_nil ?_
          refine ge_then ?_
          refine g_ret ?_
          refine ge_then_ret ?_
          refine ret1 (.inl rfl) rfl rfl [offA p X B (Post.runStep B ⟨L, us2 us, nx, inn, chg, most, wk.map (·.2), ph, got, ss.map (·.2)⟩).1 (if po.over then t else tup t)] (⟨by rw [rs_go h0 h3 hpw hov], _, rfl⟩) (by rw [rs_go h0 h3 hpw hov]; exact off_close a1 c1 a2 c2 a3 c3 a4 c4 us nts (some (pp, (goPO B L po))) ss hul hnl hxl (by simp only [offL, List.cons_append, List.nil_append]; exact (To.sat (by repeat (first | exact .nil | exact .done .refl | (apply To.cons; · (repeat (first | exact .head | apply Sel.tail))) | exact .done (by repeat (first | exact .refl | apply Drop.skip)))))))
        ·
          first | replace hc6 := of_decide_eq_true hc6 | replace hc6 := lt_f hc6 | replace hc6 := le_f hc6 | replace hc6 := dec_f hc6 | replace hc6 := nlt_t hc6 | replace hc6 := nle_t hc6 | replace hc6 := ndec_t hc6 | replace hc6 := ndec_f hc6 | replace hc6 := nn_t hc6 | replace hc6 := nn_f hc6 | skip
          have hov : (goPO B L po).over = true := hc6
          refine g_skip ?_
          refine ge_then ?_
          refine g_seq ?_
          refine g_seq ?_
          refine g_region ?_
          refine gl_v rfl (o_move rfl) ?_
          refine gl_v rfl (o_nil rfl) ?_
          first | refine gl_v rfl (o_fldS rfl) ?_ | refine gl_v rfl (o_fld rfl) ?_
          first | refine gl_v rfl (o_load rfl rfl) ?_ | refine gl_v rfl (o_loadS rfl rfl) ?_ | refine gl_v rfl (o_loadC rfl) ?_
          refine gl_v rfl (o_gtr rfl rfl) ?_
          refine gl_v rfl (o_move rfl) ?_
          refine gl_g rfl rfl (fun hc7 => ?_) (fun hc7 => ?_) rfl
          ·
            have hc7' := hc7
            first | replace hc7' := of_decide_eq_true hc7' | replace hc7' := lt_f hc7' | replace hc7' := le_f hc7' | replace hc7' := dec_f hc7' | replace hc7' := nlt_t hc7' | replace hc7' := nle_t hc7' | replace hc7' := ndec_t hc7' | replace hc7' := ndec_f hc7' | replace hc7' := nn_t hc7' | replace hc7' := nn_f hc7' | skip
            refine gl_v rfl (o_move rfl) ?_
            refine gl_gT rfl rfl hc7 ?_
            refine gl_v rfl (o_nil rfl) ?_
            refine gl_gT rfl rfl hc7 ?_
            first | refine gl_v rfl (o_fldS rfl) ?_ | refine gl_v rfl (o_fld rfl) ?_
            refine gl_gT rfl rfl hc7 ?_
            first | refine gl_v rfl (o_load rfl rfl) ?_ | refine gl_v rfl (o_loadS rfl rfl) ?_ | refine gl_v rfl (o_loadC rfl) ?_
            refine gl_gT rfl rfl hc7 ?_
            refine gl_v rfl (o_nil rfl) ?_
            refine gl_gT rfl rfl hc7 ?_
            first | refine gl_v rfl (o_fldS rfl) ?_ | refine gl_v rfl (o_fld rfl) ?_
            refine gl_gT rfl rfl hc7 ?_
            refine gl_c rfl (o_call rfl (pOut_spec X B pp (goPO B L po)) (by repeat (first | exact .nil | (apply Part.cons; · (repeat (first | exact .head | apply Sel.tail)))))) ?_
            rintro _ R ⟨_, ⟨rfl, rfl⟩, rfl⟩
            try simp only [List.cons_append, List.nil_append]
            refine gl_gT rfl rfl hc7 ?_
            refine gl_v rfl (o_eql rfl rfl) ?_
            refine gl_v rfl (o_pickT hc7 rfl rfl) ?_
            refine gl_nil ?_
            refine ge_then ?_
            refine g_cond rfl (fun hc8 => ?_) (fun hc8 => ?_)
            ·
              first | replace hc8 := of_decide_eq_true hc8 | replace hc8 := lt_f hc8 | replace hc8 := le_f hc8 | replace hc8 := dec_f hc8 | replace hc8 := nlt_t hc8 | replace hc8 := nle_t hc8 | replace hc8 := ndec_t hc8 | replace hc8 := ndec_f hc8 | replace hc8 := nn_t hc8 | replace hc8 := nn_f hc8 | skip
              have h1 : (goPO B L po).out = 1 := hc8
              refine g_region ?_
              refine gl_v rfl (o_move rfl) ?_
              refine gl_v rfl (o_nil rfl) ?_
              first | refine gl_v rfl (o_fldS rfl) ?_ | refine gl_v rfl (o_fld rfl) ?_
              first | refine gl_v rfl (o_load rfl rfl) ?_ | refine gl_v rfl (o_loadS rfl rfl) ?_ | refine gl_v rfl (o_loadC rfl) ?_
              refine gl_v rfl (o_addR (got + 1) (wr_i64 (by omega)) rfl rfl) ?_
              refine gl_v rfl (o_nil rfl) ?_
              first | refine gl_v rfl (o_fldS rfl) ?_ | refine gl_v rfl (o_fld rfl) ?_
              first | refine gl_u (o_store rfl rfl rfl rfl) ?_ | refine gl_u (o_storeS rfl rfl rfl (by first | assumption | omega | simp)) ?_
              refine gl_nil ?_
              refine ge_then ?_
              refine g_seq ?_
              refine g_region ?_
              refine gl_v rfl (o_move rfl) ?_
              refine gl_v rfl (o_nil rfl) ?_
              first | refine gl_v rfl (o_fldS rfl) ?_ | refine gl_v rfl (o_fld rfl) ?_
              first | refine gl_u (o_store rfl rfl rfl rfl) ?_ | refine gl_u (o_storeS rfl rfl rfl (by first | assumption | omega | simp)) ?_
              refine gl_nil ?_
              refine ge_then ?_
              refine g_seq ?_
              refine g_region ?_
              refine gl_v rfl (o_assign rfl) ?_
              refine gl_nil ?_
              refine ge_then ?_
              refine g_ret ?_
              refine ret1 (.inl rfl) rfl rfl [offA p X B (Post.runStep B ⟨L, us2 us, nx, inn, chg, most, wk.map (·.2), ph, got, ss.map (·.2)⟩).1 (if po.over then t else tup t)] (⟨by rw [rs_got h0 h3 hpw hov (by omega) h1], _, rfl⟩) (by rw [rs_got h0 h3 hpw hov (by omega) h1]; exact off_close a1 c1 a2 c2 a3 c3 a4 c4 us nts none ss hul hnl hxl (by simp only [offL, List.cons_append, List.nil_append]; intro h s; have s1 := emp0 h s; exact (To.sat (by repeat (first | exact .nil | exact .done .refl | (apply To.cons; · (repeat (first | exact .head | apply Sel.tail))) | exact .done (by repeat (first | exact .refl | apply Drop.skip))))) h s1))
            ·
              first | replace hc8 := of_decide_eq_true hc8 | replace hc8 := lt_f hc8 | replace hc8 := le_f hc8 | replace hc8 := dec_f hc8 | replace hc8 := nlt_t hc8 | replace hc8 := nle_t hc8 | replace hc8 := ndec_t hc8 | replace hc8 := ndec_f hc8 | replace hc8 := nn_t hc8 | replace hc8 := nn_f hc8 | skip
              have h1 : (goPO B L po).out ≠ 1 := hc8
              refine g_region ?_
              refine gl_v rfl (o_move rfl) ?_
              refine gl_v rfl (o_nil rfl) ?_
              first | refine gl_v rfl (o_fldS rfl) ?_ | refine gl_v rfl (o_fld rfl) ?_
              first | refine gl_v rfl (o_load rfl rfl) ?_ | refine gl_v rfl (o_loadS rfl rfl) ?_ | refine gl_v rfl (o_loadC rfl) ?_
              refine gl_v rfl (o_addR (ph + 1) (wr_i64 (by omega)) rfl rfl) ?_
              refine gl_v rfl (o_nil rfl) ?_
              first | refine gl_v rfl (o_fldS rfl) ?_ | refine gl_v rfl (o_fld rfl) ?_
              first | refine gl_u (o_store rfl rfl rfl rfl) ?_ | refine gl_u (o_storeS rfl rfl rfl (by first | assumption | omega | simp)) ?_
              refine gl_nil ?_
              refine ge_then ?_
              refine g_seq ?_
              refine g_region ?_
              refine gl_v rfl (o_move rfl) ?_
              refine gl_v rfl (o_nil rfl) ?_
              first | refine gl_v rfl (o_fldS rfl) ?_ | refine gl_v rfl (o_fld rfl) ?_
              first | refine gl_u (o_store rfl rfl rfl rfl) ?_ | refine gl_u (o_storeS rfl rfl rfl (by first | assumption | omega | simp)) ?_
              refine gl_nil ?_
              refine ge_then ?_
              refine g_seq ?_
              refine g_region ?_
              refine gl_v rfl (o_assign rfl) ?_
              refine gl_nil ?_
              refine ge_then ?_
              refine g_ret ?_
              refine ret1 (.inl rfl) rfl rfl [offA p X B (Post.runStep B ⟨L, us2 us, nx, inn, chg, most, wk.map (·.2), ph, got, ss.map (·.2)⟩).1 (if po.over then t else tup t)] (⟨by rw [rs_ph h0 h3 hpw hov (fun h => h1 h.2)], _, rfl⟩) (by rw [rs_ph h0 h3 hpw hov (fun h => h1 h.2)]; exact off_close a1 c1 a2 c2 a3 c3 a4 c4 us nts none ss hul hnl hxl (by simp only [offL, List.cons_append, List.nil_append]; intro h s; have s1 := emp0 h s; exact (To.sat (by repeat (first | exact .nil | exact .done .refl | (apply To.cons; · (repeat (first | exact .head | apply Sel.tail))) | exact .done (by repeat (first | exact .refl | apply Drop.skip))))) h s1))
          ·
            have hc7' := hc7
            first | replace hc7' := of_decide_eq_true hc7' | replace hc7' := lt_f hc7' | replace hc7' := le_f hc7' | replace hc7' := dec_f hc7' | replace hc7' := nlt_t hc7' | replace hc7' := nle_t hc7' | replace hc7' := ndec_t hc7' | replace hc7' := ndec_f hc7' | replace hc7' := nn_t hc7' | replace hc7' := nn_f hc7' | skip
            simp only [putO]
            refine gl_gF rfl rfl hc7 rfl ?_
            refine gl_gF rfl rfl hc7 rfl ?_
            refine gl_gF rfl rfl hc7 rfl ?_
            refine gl_gF rfl rfl hc7 rfl ?_
            refine gl_gF rfl rfl hc7 rfl ?_
            refine gl_gF rfl rfl hc7 rfl ?_
            refine gl_gF rfl rfl hc7 rfl ?_
            refine gl_v rfl (o_pickF hc7 rfl rfl) ?_
            refine gl_nil ?_
            refine ge_then ?_
            refine g_cond_false rfl ?_
            refine g_region ?_
            refine gl_v rfl (o_move rfl) ?_
            refine gl_v rfl (o_nil rfl) ?_
            first | refine gl_v rfl (o_fldS rfl) ?_ | refine gl_v rfl (o_fld rfl) ?_
            first | refine gl_v rfl (o_load rfl rfl) ?_ | refine gl_v rfl (o_loadS rfl rfl) ?_ | refine gl_v rfl (o_loadC rfl) ?_
            refine gl_v rfl (o_addR (ph + 1) (wr_i64 (by omega)) rfl rfl) ?_
            refine gl_v rfl (o_nil rfl) ?_
            first | refine gl_v rfl (o_fldS rfl) ?_ | refine gl_v rfl (o_fld rfl) ?_
            first | refine gl_u (o_store rfl rfl rfl rfl) ?_ | refine gl_u (o_storeS rfl rfl rfl (by first | assumption | omega | simp)) ?_
            refine gl_nil ?_
            refine ge_then ?_
            refine g_seq ?_
            refine g_region ?_
            refine gl_v rfl (o_move rfl) ?_
            refine gl_v rfl (o_nil rfl) ?_
            first | refine gl_v rfl (o_fldS rfl) ?_ | refine gl_v rfl (o_fld rfl) ?_
            first | refine gl_u (o_store rfl rfl rfl rfl) ?_ | refine gl_u (o_storeS rfl rfl rfl (by first | assumption | omega | simp)) ?_
            refine gl_nil ?_
            refine ge_then ?_
            refine g_seq ?_
            refine g_region ?_
            refine gl_v rfl (o_assign rfl) ?_
            refine gl_nil ?_
            refine ge_then ?_
            refine g_ret ?_
            refine ret1 (.inl rfl) rfl rfl [offA p X B (Post.runStep B ⟨L, us2 us, nx, inn, chg, most, wk.map (·.2), ph, got, ss.map (·.2)⟩).1 (if po.over then t else tup t)] (⟨by rw [rs_ph h0 h3 hpw hov (by omega)], _, rfl⟩) (by rw [rs_ph h0 h3 hpw hov (by omega)]; exact off_close a1 c1 a2 c2 a3 c3 a4 c4 us nts none ss hul hnl hxl (by simp only [offL, List.cons_append, List.nil_append]; intro h s; have s1 := emp0 h s; exact (To.sat (by repeat (first | exact .nil | exact .done .refl | (apply To.cons; · (repeat (first | exact .head | apply Sel.tail))) | exact .done (by repeat (first | exact .refl | apply Drop.skip))))) h s1))

set_option maxHeartbeats 1000000 in
set_option maxRecDepth 8000 in
theorem olay_spec (p : Nat) (X : BX) (B : PB) (w : OW) (t : Int) (hw : OkW B w) : FnS Try.prog 17 [ptr p 0] [offA p X B w t] (fun u Bs => u = .bool (Post.layStep B w).2 ∧ ∃ t', Bs = [offA p X B (Post.layStep B w).1 t']) := by
  refine fn_body Try.func17 rfl rfl rfl ?_
  intro W0 R
  simp only [List.zipIdx_cons, List.zipIdx_nil, List.map_cons, List.map_nil, Nat.zero_add, Nat.reduceAdd, List.cons_append, List.nil_append]
  obtain ⟨L, ts, nx, inn, chg, most, wk0, ph, got, se⟩ := w
  refine g_open (l := offL p X B _ t) (by repeat (first | exact .head | apply Sel.tail)) ?_
  rintro ⟨a1, c1, a2, c2, a3, c3, a4, c4, us, nts, wk, ss⟩ ⟨hul, hnl, hxl, hts, hwk, hse⟩
  replace hul : us.length = 3 := hul
  replace hnl : nts.length = 3 := hnl
  replace hxl : nx.length = 3 := hxl
  obtain rfl : us2 us = ts := hts
  obtain rfl : wk.map (·.2) = wk0 := hwk
  obtain rfl : ss.map (·.2) = se := hse
  have hpi : PI B L := hw.pi
  have hli : LI L := hw.li
  have hinn : -10 ≤ inn ∧ inn ≤ 1000000 := hw.inn
  have hchg : 0 ≤ chg ∧ chg ≤ 1 := hw.chg
  have hph : 0 ≤ ph ∧ ph ≤ 3 := hw.ph
  have hgot : 0 ≤ got ∧ got ≤ 1000000 := hw.got
  have hfew : ss.length ≤ 1000 := by have := hw.few; simpa using this
  simp only [offL, List.cons_append, List.nil_append]
  refine g_seq ?_
  refine g_region ?_
  refine gl_v rfl (o_assign rfl) ?_
  refine gl_nil ?_
  refine ge_then ?_
  refine g_seq ?_
  refine g_seq ?_
  refine g_region ?_
  refine gl_v rfl (o_move rfl) ?_
  refine gl_v rfl (o_nil rfl) ?_
  first | refine gl_v rfl (o_fldS rfl) ?_ | refine gl_v rfl (o_fld rfl) ?_
  first | refine gl_v rfl (o_load rfl rfl) ?_ | refine gl_v rfl (o_loadS rfl rfl) ?_ | refine gl_v rfl (o_loadC rfl) ?_
  refine gl_v rfl (o_lenL rfl) ?_
  refine gl_v rfl (o_eql rfl rfl) ?_
  refine gl_nil ?_
  refine ge_then ?_
  refine g_cond rfl (fun hc1 => ?_) (fun hc1 => ?_)
  ·
    first | replace hc1 := of_decide_eq_true hc1 | replace hc1 := lt_f hc1 | replace hc1 := le_f hc1 | replace hc1 := dec_f hc1 | replace hc1 := nlt_t hc1 | replace hc1 := nle_t hc1 | replace hc1 := ndec_t hc1 | replace hc1 := ndec_f hc1 | replace hc1 := nn_t hc1 | replace hc1 := nn_f hc1 | skip
    obtain rfl : ss = [] := List.eq_nil_of_length_eq_zero (by omega)
    refine g_seq ?_
    refine g_region ?_
    refine gl_v rfl (o_assign rfl) ?_
    refine gl_nil ?_
    refine ge_then ?_
    refine g_ret ?_
    refine ge_then_ret ?_
    refine ret1 (.inl rfl) rfl rfl [offA p X B (Post.layStep B ⟨L, us2 us, nx, inn, chg, most, wk.map (·.2), ph, got, []⟩).1 t] (⟨rfl, _, rfl⟩) (by rw [ls_0]; exact off_close a1 c1 a2 c2 a3 c3 a4 c4 us nts wk [] hul hnl hxl (by simp only [offL, List.cons_append, List.nil_append]; exact (To.sat (by repeat (first | exact .nil | exact .done .refl | (apply To.cons; · (repeat (first | exact .head | apply Sel.tail))) | exact .done (by repeat (first | exact .refl | apply Drop.skip)))))))
  ·
    first | replace hc1 := of_decide_eq_true hc1 | replace hc1 := lt_f hc1 | replace hc1 := le_f hc1 | replace hc1 := dec_f hc1 | replace hc1 := nlt_t hc1 | replace hc1 := nle_t hc1 | replace hc1 := ndec_t hc1 | replace hc1 := ndec_f hc1 | replace hc1 := nn_t hc1 | replace hc1 := nn_f hc1 | skip
    obtain ⟨⟨pp, po⟩, r, rfl⟩ : ∃ x r, ss = x :: r := by
      cases ss with
      | nil => exact absurd rfl hc1
      | cons x r => exact ⟨x, r, rfl⟩
    have hpo : POI po := hw.sok po List.mem_cons_self
    refine g_skip ?_
    refine ge_then ?_
    refine g_seq ?_
    refine g_region ?_
    refine gl_v rfl (o_move rfl) ?_
    refine gl_v rfl (o_nil rfl) ?_
    first | refine gl_v rfl (o_fldS rfl) ?_ | refine gl_v rfl (o_fld rfl) ?_
    first | refine gl_v rfl (o_load rfl rfl) ?_ | refine gl_v rfl (o_loadS rfl rfl) ?_ | refine gl_v rfl (o_loadC rfl) ?_
    refine gl_v rfl (o_idxS (j := 0) rfl rfl (by simp)) ?_
    refine gl_v rfl (o_loadS rfl (show ((((pp, po) :: r).map qp)[0 * 1]? = some (ptr pp 0)) from rfl)) ?_
    refine gl_v rfl (o_assign rfl) ?_
    refine gl_nil ?_
    refine ge_then ?_
    refine g_seq ?_
    refine g_seq ?_
    refine g_fo (l := ((pp, po) :: r).map (qa X B)) (i := 0) (A := postA X B pp po) (by repeat (first | exact .head | apply Sel.tail)) rfl ?_
    refine g_region ?_
    refine gl_v rfl (o_move rfl) ?_
    refine gl_v rfl (o_nil rfl) ?_
    first | refine gl_v rfl (o_fldS rfl) ?_ | refine gl_v rfl (o_fld rfl) ?_
    refine gl_c rfl (o_call rfl (pstep_spec X B pp L t po hpi hpo) (by repeat (first | exact .nil | (apply Part.cons; · (repeat (first | exact .head | apply Sel.tail)))))) ?_
    rintro _ R ⟨_, ⟨rfl, rfl⟩, rfl⟩
    try simp only [List.cons_append, List.nil_append]
    refine gl_nil ?_
    refine ge_then ?_
    refine g_cond rfl (fun hc2 => ?_) (fun hc2 => ?_)
    ·
      first | replace hc2 := of_decide_eq_true hc2 | replace hc2 := lt_f hc2 | replace hc2 := le_f hc2 | replace hc2 := dec_f hc2 | replace hc2 := nlt_t hc2 | replace hc2 := nle_t hc2 | replace hc2 := ndec_t hc2 | replace hc2 := ndec_f hc2 | replace hc2 := nn_t hc2 | replace hc2 := nn_f hc2 | skip
      have hov : (goPO B L po).over = true := by first | exact hc2 | simpa [PO.over] using hc2
      refine g_seq ?_
      refine g_region ?_
      refine gl_v rfl (o_move rfl) ?_
      refine gl_v rfl (o_move rfl) ?_
      refine gl_v rfl (o_nil rfl) ?_
      first | refine gl_v rfl (o_fldS rfl) ?_ | refine gl_v rfl (o_fld rfl) ?_
      first | refine gl_v rfl (o_load rfl rfl) ?_ | refine gl_v rfl (o_loadS rfl rfl) ?_ | refine gl_v rfl (o_loadC rfl) ?_
      refine gl_v rfl (o_slFrom (i := 1) rfl rfl (by simp)) ?_
      refine gl_v rfl (o_nil rfl) ?_
      first | refine gl_v rfl (o_fldS rfl) ?_ | refine gl_v rfl (o_fld rfl) ?_
      first | refine gl_u (o_store rfl rfl rfl rfl) ?_ | refine gl_u (o_storeS rfl rfl rfl (by first | assumption | omega | simp)) ?_
      refine gl_nil ?_
      refine ge_then ?_
      refine g_seq ?_
      refine g_region ?_
      refine gl_v rfl (o_move rfl) ?_
      refine gl_v rfl (o_nil rfl) ?_
      first | refine gl_v rfl (o_fldS rfl) ?_ | refine gl_v rfl (o_fld rfl) ?_
      refine gl_c rfl (o_call rfl (pOut_spec X B pp (goPO B L po)) (by repeat (first | exact .nil | (apply Part.cons; · (repeat (first | exact .head | apply Sel.tail)))))) ?_
      rintro _ R ⟨_, ⟨rfl, rfl⟩, rfl⟩
      try simp only [List.cons_append, List.nil_append]
      refine gl_v rfl (o_eql rfl rfl) ?_
      refine gl_nil ?_
      refine ge_then ?_
      refine g_cond rfl (fun hc3 => ?_) (fun hc3 => ?_)
      ·
        first | replace hc3 := of_decide_eq_true hc3 | replace hc3 := lt_f hc3 | replace hc3 := le_f hc3 | replace hc3 := dec_f hc3 | replace hc3 := nlt_t hc3 | replace hc3 := nle_t hc3 | replace hc3 := ndec_t hc3 | replace hc3 := ndec_f hc3 | replace hc3 := nn_t hc3 | replace hc3 := nn_f hc3 | skip
        have h8 : (goPO B L po).out = 8 := hc3
        refine g_region ?_
        refine gl_v rfl (o_move rfl) ?_
        refine gl_c rfl (o_call rfl (charge_spec p X _ _ _ _ _ inn chg most ph got (by omega)) (by repeat (first | exact .nil | (apply Part.cons; · (repeat (first | exact .head | apply Sel.tail)))))) ?_
        rintro _ R ⟨_, ⟨rfl, rfl⟩, rfl⟩
        try simp only [List.cons_append, List.nil_append]
        refine gl_nil ?_
        refine ge_then ?_
        refine g_seq ?_
        refine g_region ?_
        refine gl_v rfl (o_assign rfl) ?_
        refine gl_nil ?_
        refine ge_then ?_
        refine g_ret ?_
        refine ret1 (.inl rfl) rfl rfl [offA p X B (Post.layStep B ⟨L, us2 us, nx, inn, chg, most, wk.map (·.2), ph, got, ((pp, po) :: r).map (·.2)⟩).1 (if po.over then t else tup t)] (⟨by rw [show (((pp, po) :: r).map (fun q : Nat × PO => q.2)) = po :: r.map (·.2) from rfl, ls_8 hov h8], _, rfl⟩) (by rw [show (((pp, po) :: r).map (fun q : Nat × PO => q.2)) = po :: r.map (·.2) from rfl, ls_8 hov h8]; exact off_close a1 c1 a2 c2 a3 c3 _ (c4 - 1) us nts wk r hul hnl hxl (by simp only [offL, List.cons_append, List.nil_append]; exact (by intro h s; have s1 := Sel.to (A := ofs (.slice a4 (r.length + 1) c4) 29 (r.length + 1) (ptr pp 0 :: r.map qp)) (by repeat (first | exact .head | apply Sel.tail)) s; have s2 := ofs_tail h s1; have s3 := Sel.to (A := fam (emp :: r.map (qa X B))) (by repeat (first | exact .head | apply Sel.tail)) s2; have s4 := fam_tail h s3; exact (To.sat (by repeat (first | exact .nil | exact .done .refl | (apply To.cons; · (repeat (first | exact .head | apply Sel.tail))) | exact .done (by repeat (first | exact .refl | apply Drop.skip))))) h s4)))
      ·
        first | replace hc3 := of_decide_eq_true hc3 | replace hc3 := lt_f hc3 | replace hc3 := le_f hc3 | replace hc3 := dec_f hc3 | replace hc3 := nlt_t hc3 | replace hc3 := nle_t hc3 | replace hc3 := ndec_t hc3 | replace hc3 := ndec_f hc3 | replace hc3 := nn_t hc3 | replace hc3 := nn_f hc3 | skip
        have h8 : (goPO B L po).out ≠ 8 := hc3
        refine g_skip ?_
        refine ge_then ?_
        refine g_seq ?_
        refine g_region ?_
        refine gl_v rfl (o_assign rfl) ?_
        refine gl_nil ?_
        refine ge_then ?_
        refine g_ret ?_
        refine ret1 (.inl rfl) rfl rfl [offA p X B (Post.layStep B ⟨L, us2 us, nx, inn, chg, most, wk.map (·.2), ph, got, ((pp, po) :: r).map (·.2)⟩).1 (if po.over then t else tup t)] (⟨by rw [show (((pp, po) :: r).map (fun q : Nat × PO => q.2)) = po :: r.map (·.2) from rfl, ls_x hov h8], _, rfl⟩) (by rw [show (((pp, po) :: r).map (fun q : Nat × PO => q.2)) = po :: r.map (·.2) from rfl, ls_x hov h8]; exact off_close a1 c1 a2 c2 a3 c3 _ (c4 - 1) us nts wk r hul hnl hxl (by simp only [offL, List.cons_append, List.nil_append]; exact (by intro h s; have s1 := Sel.to (A := ofs (.slice a4 (r.length + 1) c4) 29 (r.length + 1) (ptr pp 0 :: r.map qp)) (by repeat (first | exact .head | apply Sel.tail)) s; have s2 := ofs_tail h s1; have s3 := Sel.to (A := fam (emp :: r.map (qa X B))) (by repeat (first | exact .head | apply Sel.tail)) s2; have s4 := fam_tail h s3; exact (To.sat (by repeat (first | exact .nil | exact .done .refl | (apply To.cons; · (repeat (first | exact .head | apply Sel.tail))) | exact .done (by repeat (first | exact .refl | apply Drop.skip))))) h s4)))
    ·
      first | replace hc2 := of_decide_eq_true hc2 | replace hc2 := lt_f hc2 | replace hc2 := le_f hc2 | replace hc2 := dec_f hc2 | replace hc2 := nlt_t hc2 | replace hc2 := nle_t hc2 | replace hc2 := ndec_t hc2 | replace hc2 := ndec_f hc2 | replace hc2 := nn_t hc2 | replace hc2 := nn_f hc2 | skip
      have hov : (goPO B L po).over = false := by first | exact hc2 | simpa [PO.over] using hc2
      refine g_skip ?_
      refine ge_then ?_
      refine g_seq ?_
      refine g_region ?_
      refine gl_v rfl (o_assign rfl) ?_
      refine gl_nil ?_
      refine ge_then ?_
      refine g_ret ?_
      refine ret1 (.inl rfl) rfl rfl [offA p X B (Post.layStep B ⟨L, us2 us, nx, inn, chg, most, wk.map (·.2), ph, got, ((pp, po) :: r).map (·.2)⟩).1 (if po.over then t else tup t)] (⟨by rw [show (((pp, po) :: r).map (fun q : Nat × PO => q.2)) = po :: r.map (·.2) from rfl, ls_go hov], _, rfl⟩) (by rw [show (((pp, po) :: r).map (fun q : Nat × PO => q.2)) = po :: r.map (·.2) from rfl, ls_go hov]; exact off_close a1 c1 a2 c2 a3 c3 a4 c4 us nts wk ((pp, (goPO B L po)) :: r) hul hnl hxl (by simp only [offL, List.cons_append, List.nil_append]; intro h s; have s1 := fs (A := postA X B pp (goPO B L po)) (i := 0) (l := ((pp, po) :: r).map (qa X B)) (by repeat (first | exact .head | apply Sel.tail)) (by repeat (first | exact .head | apply Sel.tail)) (by simp) h s; exact (To.sat (by repeat (first | exact .nil | exact .done .refl | (apply To.cons; · (repeat (first | exact .head | apply Sel.tail))) | exact .done (by repeat (first | exact .refl | apply Drop.skip))))) h s1))

set_option maxHeartbeats 1000000 in
set_option maxRecDepth 8000 in
theorem Peek_spec (p : Nat) (L : List Int) (t : Int) (i : Nat) (hi : i < L.length) : FnS Try.prog 18 [ptr p 0, I64 i] [memA p L t] (fun u Bs => u = U64 (L.getD i 0) ∧ Bs = [memA p L t]) := by
  refine fn_body Try.func18 rfl rfl rfl ?_
  intro W0 R
  simp only [List.zipIdx_cons, List.zipIdx_nil, List.map_cons, List.map_nil, Nat.zero_add, Nat.reduceAdd, List.cons_append, List.nil_append]
  refine g_open (by repeat (first | exact .head | apply Sel.tail)) ?_
  rintro ⟨a, c⟩ -
  simp only [List.cons_append, List.nil_append]
  refine g_seq ?_
  refine g_region ?_
  refine gl_v rfl (o_assign rfl) ?_
  refine gl_nil ?_
  refine ge_then ?_
  refine g_seq ?_
  refine g_seq ?_
  refine g_region ?_
  refine gl_v rfl (o_move rfl) ?_
  refine gl_v rfl (o_lss rfl rfl) ?_
  refine gl_v rfl (o_move rfl) ?_
  refine gl_gT rfl rfl (by simp; try omega) ?_
  refine gl_v rfl (o_move rfl) ?_
  refine gl_gT rfl rfl (by simp; try omega) ?_
  refine gl_v rfl (o_move rfl) ?_
  refine gl_gT rfl rfl (by simp; try omega) ?_
  refine gl_v rfl (o_nil rfl) ?_
  refine gl_gT rfl rfl (by simp; try omega) ?_
  first | refine gl_v rfl (o_fldS rfl) ?_ | refine gl_v rfl (o_fld rfl) ?_
  refine gl_gT rfl rfl (by simp; try omega) ?_
  first | refine gl_v rfl (o_load rfl rfl) ?_ | refine gl_v rfl (o_loadS rfl rfl) ?_ | refine gl_v rfl (o_loadC rfl) ?_
  refine gl_gT rfl rfl (by simp; try omega) ?_
  first | refine gl_v rfl (o_len rfl) ?_ | refine gl_v rfl (o_lenL rfl) ?_
  refine gl_gT rfl rfl (by simp; try omega) ?_
  refine gl_v rfl (o_geq rfl rfl) ?_
  refine gl_v rfl (o_pickF (by simp; try omega) rfl rfl) ?_
  refine gl_nil ?_
  refine ge_then ?_
  refine g_cond_false (by simp [opv, slk]; try omega) ?_
  refine g_skip ?_
  refine ge_then ?_
  refine g_seq ?_
  refine g_region ?_
  refine gl_v rfl (o_move rfl) ?_
  refine gl_v rfl (o_nil rfl) ?_
  first | refine gl_v rfl (o_fldS rfl) ?_ | refine gl_v rfl (o_fld rfl) ?_
  first | refine gl_v rfl (o_load rfl rfl) ?_ | refine gl_v rfl (o_loadS rfl rfl) ?_ | refine gl_v rfl (o_loadC rfl) ?_
  refine gl_v rfl (o_move rfl) ?_
  refine gl_v rfl (o_idxS (j := i) rfl rfl (by omega)) ?_
  refine gl_v rfl (o_loadS rfl (map_at (f := U64) (d := 0) hi)) ?_
  refine gl_v rfl (o_assign rfl) ?_
  refine gl_nil ?_
  refine ge_then ?_
  refine g_ret ?_
  refine ret1 (.inl rfl) rfl rfl [memA p L t] (⟨rfl, rfl⟩) (mem_close a c rfl rfl (To.sat (by repeat (first | exact .nil | exact .done .refl | (apply To.cons; · (repeat (first | exact .head | apply Sel.tail))) | exact .done (by repeat (first | exact .refl | apply Drop.skip))))))

theorem Peek_off (X : BX) (B : PB) (L : List Int) (t : Int) (i : Nat) (hi : i < L.length) : FnS Try.prog 18 [ptr X.m 0, I64 i] [envA X B L t] (fun u Bs => u = U64 (L.getD i 0) ∧ Bs = [envA X B L t]) :=
  fns_ex fun x _ => fns_eq (Peek_spec X.m L t i hi) (by repeat (first | exact .nil | (apply Part.cons; · (repeat (first | exact .head | apply Sel.tail))))) (fun R => by simp only [List.cons_append, List.nil_append]; exact env_close (To.sat (by repeat (first | exact .nil | exact .done .refl | (apply To.cons; · (repeat (first | exact .head | apply Sel.tail))) | exact .done (by repeat (first | exact .refl | apply Drop.skip))))))

set_option maxHeartbeats 1000000 in
set_option maxRecDepth 8000 in
theorem pcharge_spec (s1 s2 : Nat) (hs1 : s1 ≤ 255) (hs2 : s2 ≤ 255) (a : Option Addr) (c : Nat) (vs : List Int) (hvs : ∀ x ∈ vs, 0 ≤ x ∧ x ≤ 255) (hm : vs.length ≤ 140737488351232) (A : Assn) [RdA (.slice a vs.length c) A vs.length (vs.map (fun x => Value.int .u8 x))] : FnS Try.prog 4 [.int .u8 s1, .int .u8 s2, .slice a vs.length c] [A]
      (fun u Bs => u = .bool true ∧ Bs = [A]) := by
  refine fn_body Try.func4 rfl rfl rfl ?_
  intro W0 R
  simp only [List.zipIdx_cons, List.zipIdx_nil, List.map_cons, List.map_nil, Nat.zero_add, Nat.reduceAdd, List.cons_append, List.nil_append]
  obtain ⟨nm, hnm⟩ : ∃ n, n = 1 + s1 % 4 := ⟨_, rfl⟩
  obtain ⟨nn, hnn⟩ : ∃ n, n = 1 + s2 % 4 := ⟨_, rfl⟩
  have h1 : 1 ≤ nm ∧ nm ≤ 4 := by omega
  have h2 : 1 ≤ nn ∧ nn ≤ 4 := by omega
  have hst := Post.Inv.start h1 h2
  refine g_seq ?_
  refine g_region ?_
  refine gl_v rfl (o_assign rfl) ?_
  refine gl_nil ?_
  refine ge_then ?_
  refine g_seq ?_
  refine g_seq ?_
  refine g_region ?_
  refine gl_c rfl (o_call rfl (palive_spec) (by repeat (first | exact .nil | (apply Part.cons; · (repeat (first | exact .head | apply Sel.tail)))))) ?_
  rintro _ R ⟨_, ⟨rfl, rfl⟩, rfl⟩
  try simp only [List.cons_append, List.nil_append]
  refine gl_v rfl (o_is (c := false) (by rfl) (o_not rfl)) ?_
  refine gl_nil ?_
  refine ge_then ?_
  refine g_cond_false rfl ?_
  refine g_skip ?_
  refine ge_then ?_
  refine g_seq ?_
  refine g_region ?_
  refine gl_v rfl (o_move rfl) ?_
  refine gl_v rfl (o_convR (s1 : Int) (wr_i64 (by omega)) rfl) ?_
  refine gl_v rfl (o_remR ((s1 % 4 : Nat) : Int) (tmodn s1 4) rfl rfl (by decide)) ?_
  refine gl_v rfl (o_addR (nm : Int) (by rw [wr_i64 (by omega)]; omega) rfl rfl) ?_
  refine gl_v rfl (o_move rfl) ?_
  refine gl_v rfl (o_convR (s2 : Int) (wr_i64 (by omega)) rfl) ?_
  refine gl_v rfl (o_remR ((s2 % 4 : Nat) : Int) (tmodn s2 4) rfl rfl (by decide)) ?_
  refine gl_v rfl (o_addR (nn : Int) (by rw [wr_i64 (by omega)]; omega) rfl rfl) ?_
  refine gl_c rfl (o_call rfl (pmade_spec nm nn ⟨h1.1, by omega⟩ ⟨h2.1, by omega⟩) (by repeat (first | exact .nil | (apply Part.cons; · (repeat (first | exact .head | apply Sel.tail)))))) ?_
  rintro _ R ⟨_, ⟨X, t0, rfl, rfl⟩, rfl⟩
  try simp only [List.cons_append, List.nil_append]
  change GL _ _ _ _ _ _ (envA X (BM nm nn) (w0 nm nn).L t0 :: _) _
  refine gl_v rfl (o_move rfl) ?_
  refine gl_v rfl (o_extract rfl rfl) ?_
  refine gl_v rfl (o_extract rfl rfl) ?_
  refine gl_v rfl (o_assign rfl) ?_
  refine gl_v rfl (o_assign rfl) ?_
  refine gl_nil ?_
  refine ge_then ?_
  refine g_seq ?_
  refine g_seq ?_
  refine g_region ?_
  refine gl_v rfl (o_move rfl) ?_
  refine gl_v rfl (o_is (c := false) (by rfl) (o_eqlPn rfl rfl)) ?_
  refine gl_nil ?_
  refine ge_then ?_
  refine g_cond_false rfl ?_
  refine g_skip ?_
  refine ge_then ?_
  refine g_cut (fun act wo => ∃ (p9 : Nat) (t : Int), HasSl Try.f4.ntmps [(9, ptr p9 0), (8, ptr X.m 0), (2, .slice a vs.length c)] act ∧ St W0 (offA p9 X (BM nm nn) (w0 nm nn) t :: A :: R) wo) ?_ ?_
  ·
    refine g_tree [1, 2, 3, 5] [1, 2, 3] (.stab 0 (.eff 1 (.eff 2 (.eff 3 (.loc 4 (.eff 5 (.loc 6 .nil) .nil)) .nil) (.eff 3 (.eff 2 (.loc 4 (.eff 5 (.loc 6 .nil) .nil)) .nil) .nil)) (.eff 2 (.eff 1 (.eff 3 (.loc 4 (.eff 5 (.loc 6 .nil) .nil)) .nil) (.eff 3 (.eff 1 (.loc 4 (.eff 5 (.loc 6 .nil) .nil)) .nil) .nil)) (.eff 3 (.eff 1 (.eff 2 (.loc 4 (.eff 5 (.loc 6 .nil) .nil)) .nil) (.eff 2 (.eff 1 (.loc 4 (.eff 5 (.loc 6 .nil) .nil)) .nil) .nil)) .nil)))) [] mixed (by kernel_rfl) ?_
    refine gt_vs rfl .none rfl (o_move rfl) (fun _ _ => trivial) ?_
    refine gt_alts ?_ ?_
    ·
      refine gt_n rfl .none rfl (o_makeS (k := 3) rfl rfl (by unfold maxLen; omega) (by omega)) ?_
      rintro _ _ ⟨a31, c31, rfl, rfl⟩
      refine ⟨(fun _ => (fun _ _ => trivial)), ?_⟩
      refine gt_alts ?_ ?_
      ·
        refine gt_n rfl .none rfl (o_makeS (k := 3) rfl rfl (by unfold maxLen; omega) (by omega)) ?_
        rintro _ _ ⟨a32, c32, rfl, rfl⟩
        refine ⟨(fun _ => (fun _ _ => trivial)), ?_⟩
        refine gt_n rfl .none rfl (o_makeS (k := 3) rfl rfl (by unfold maxLen; omega) (by omega)) ?_
        rintro _ _ ⟨a33, c33, rfl, rfl⟩
        refine ⟨(fun _ => (fun _ _ => trivial)), ?_⟩
        refine gt_v rfl .none rfl (o_build rfl rfl) ?_
        refine gt_n rfl .none rfl (o_boxA rfl) ?_
        rintro _ _ ⟨b35, rfl, rfl⟩
        refine ⟨(fun hG => absurd hG (by decide)), ?_⟩
        refine gt_v rfl .none rfl (o_assign rfl) ?_
        refine gt_nil ?_
        exact fun act wo hsl st => ⟨b35, _, hsl.keep (Keep.cons rfl (Keep.cons rfl (Keep.cons rfl (Keep.nil)))), st.imp (off_close a31 c31 a32 c32 a33 c33 none 0 [none, none, none] [false, false, false] none [] rfl rfl rfl (by simp only [offL, List.cons_append, List.nil_append]; intro h s; have s1 := fam_nil h s; have s2 := ofs_nil (e := 29) h s1; have s3 := emp0 h s2; have s4 := fam3 (X := X) (B := (BM nm nn)) h s3; exact (To.sat (by repeat (first | exact .nil | exact .done .refl | (apply To.cons; · (repeat (first | exact .head | apply Sel.tail))) | exact .done (by repeat (first | exact .refl | apply Drop.skip))))) h s4))⟩
      ·
        refine gt_n rfl .none rfl (o_makeS (k := 3) rfl rfl (by unfold maxLen; omega) (by omega)) ?_
        rintro _ _ ⟨a33, c33, rfl, rfl⟩
        refine ⟨(fun _ => (fun _ _ => trivial)), ?_⟩
        refine gt_n rfl .none rfl (o_makeS (k := 3) rfl rfl (by unfold maxLen; omega) (by omega)) ?_
        rintro _ _ ⟨a32, c32, rfl, rfl⟩
        refine ⟨(fun _ => (fun _ _ => trivial)), ?_⟩
        refine gt_v rfl .none rfl (o_build rfl rfl) ?_
        refine gt_n rfl .none rfl (o_boxA rfl) ?_
        rintro _ _ ⟨b35, rfl, rfl⟩
        refine ⟨(fun hG => absurd hG (by decide)), ?_⟩
        refine gt_v rfl .none rfl (o_assign rfl) ?_
        refine gt_nil ?_
        exact fun act wo hsl st => ⟨b35, _, hsl.keep (Keep.cons rfl (Keep.cons rfl (Keep.cons rfl (Keep.nil)))), st.imp (off_close a31 c31 a32 c32 a33 c33 none 0 [none, none, none] [false, false, false] none [] rfl rfl rfl (by simp only [offL, List.cons_append, List.nil_append]; intro h s; have s1 := fam_nil h s; have s2 := ofs_nil (e := 29) h s1; have s3 := emp0 h s2; have s4 := fam3 (X := X) (B := (BM nm nn)) h s3; exact (To.sat (by repeat (first | exact .nil | exact .done .refl | (apply To.cons; · (repeat (first | exact .head | apply Sel.tail))) | exact .done (by repeat (first | exact .refl | apply Drop.skip))))) h s4))⟩
    ·
      refine gt_alts ?_ ?_
      ·
        refine gt_n rfl .none rfl (o_makeS (k := 3) rfl rfl (by unfold maxLen; omega) (by omega)) ?_
        rintro _ _ ⟨a32, c32, rfl, rfl⟩
        refine ⟨(fun _ => (fun _ _ => trivial)), ?_⟩
        refine gt_alts ?_ ?_
        ·
          refine gt_n rfl .none rfl (o_makeS (k := 3) rfl rfl (by unfold maxLen; omega) (by omega)) ?_
          rintro _ _ ⟨a31, c31, rfl, rfl⟩
          refine ⟨(fun _ => (fun _ _ => trivial)), ?_⟩
          refine gt_n rfl .none rfl (o_makeS (k := 3) rfl rfl (by unfold maxLen; omega) (by omega)) ?_
          rintro _ _ ⟨a33, c33, rfl, rfl⟩
          refine ⟨(fun _ => (fun _ _ => trivial)), ?_⟩
          refine gt_v rfl .none rfl (o_build rfl rfl) ?_
          refine gt_n rfl .none rfl (o_boxA rfl) ?_
          rintro _ _ ⟨b35, rfl, rfl⟩
          refine ⟨(fun hG => absurd hG (by decide)), ?_⟩
          refine gt_v rfl .none rfl (o_assign rfl) ?_
          refine gt_nil ?_
          exact fun act wo hsl st => ⟨b35, _, hsl.keep (Keep.cons rfl (Keep.cons rfl (Keep.cons rfl (Keep.nil)))), st.imp (off_close a31 c31 a32 c32 a33 c33 none 0 [none, none, none] [false, false, false] none [] rfl rfl rfl (by simp only [offL, List.cons_append, List.nil_append]; intro h s; have s1 := fam_nil h s; have s2 := ofs_nil (e := 29) h s1; have s3 := emp0 h s2; have s4 := fam3 (X := X) (B := (BM nm nn)) h s3; exact (To.sat (by repeat (first | exact .nil | exact .done .refl | (apply To.cons; · (repeat (first | exact .head | apply Sel.tail))) | exact .done (by repeat (first | exact .refl | apply Drop.skip))))) h s4))⟩
        ·
          refine gt_n rfl .none rfl (o_makeS (k := 3) rfl rfl (by unfold maxLen; omega) (by omega)) ?_
          rintro _ _ ⟨a33, c33, rfl, rfl⟩
          refine ⟨(fun _ => (fun _ _ => trivial)), ?_⟩
          refine gt_n rfl .none rfl (o_makeS (k := 3) rfl rfl (by unfold maxLen; omega) (by omega)) ?_
          rintro _ _ ⟨a31, c31, rfl, rfl⟩
          refine ⟨(fun _ => (fun _ _ => trivial)), ?_⟩
          refine gt_v rfl .none rfl (o_build rfl rfl) ?_
          refine gt_n rfl .none rfl (o_boxA rfl) ?_
          rintro _ _ ⟨b35, rfl, rfl⟩
          refine ⟨(fun hG => absurd hG (by decide)), ?_⟩
          refine gt_v rfl .none rfl (o_assign rfl) ?_
          refine gt_nil ?_
          exact fun act wo hsl st => ⟨b35, _, hsl.keep (Keep.cons rfl (Keep.cons rfl (Keep.cons rfl (Keep.nil)))), st.imp (off_close a31 c31 a32 c32 a33 c33 none 0 [none, none, none] [false, false, false] none [] rfl rfl rfl (by simp only [offL, List.cons_append, List.nil_append]; intro h s; have s1 := fam_nil h s; have s2 := ofs_nil (e := 29) h s1; have s3 := emp0 h s2; have s4 := fam3 (X := X) (B := (BM nm nn)) h s3; exact (To.sat (by repeat (first | exact .nil | exact .done .refl | (apply To.cons; · (repeat (first | exact .head | apply Sel.tail))) | exact .done (by repeat (first | exact .refl | apply Drop.skip))))) h s4))⟩
      ·
        refine gt_n rfl .none rfl (o_makeS (k := 3) rfl rfl (by unfold maxLen; omega) (by omega)) ?_
        rintro _ _ ⟨a33, c33, rfl, rfl⟩
        refine ⟨(fun _ => (fun _ _ => trivial)), ?_⟩
        refine gt_alts ?_ ?_
        ·
          refine gt_n rfl .none rfl (o_makeS (k := 3) rfl rfl (by unfold maxLen; omega) (by omega)) ?_
          rintro _ _ ⟨a31, c31, rfl, rfl⟩
          refine ⟨(fun _ => (fun _ _ => trivial)), ?_⟩
          refine gt_n rfl .none rfl (o_makeS (k := 3) rfl rfl (by unfold maxLen; omega) (by omega)) ?_
          rintro _ _ ⟨a32, c32, rfl, rfl⟩
          refine ⟨(fun _ => (fun _ _ => trivial)), ?_⟩
          refine gt_v rfl .none rfl (o_build rfl rfl) ?_
          refine gt_n rfl .none rfl (o_boxA rfl) ?_
          rintro _ _ ⟨b35, rfl, rfl⟩
          refine ⟨(fun hG => absurd hG (by decide)), ?_⟩
          refine gt_v rfl .none rfl (o_assign rfl) ?_
          refine gt_nil ?_
          exact fun act wo hsl st => ⟨b35, _, hsl.keep (Keep.cons rfl (Keep.cons rfl (Keep.cons rfl (Keep.nil)))), st.imp (off_close a31 c31 a32 c32 a33 c33 none 0 [none, none, none] [false, false, false] none [] rfl rfl rfl (by simp only [offL, List.cons_append, List.nil_append]; intro h s; have s1 := fam_nil h s; have s2 := ofs_nil (e := 29) h s1; have s3 := emp0 h s2; have s4 := fam3 (X := X) (B := (BM nm nn)) h s3; exact (To.sat (by repeat (first | exact .nil | exact .done .refl | (apply To.cons; · (repeat (first | exact .head | apply Sel.tail))) | exact .done (by repeat (first | exact .refl | apply Drop.skip))))) h s4))⟩
        ·
          refine gt_n rfl .none rfl (o_makeS (k := 3) rfl rfl (by unfold maxLen; omega) (by omega)) ?_
          rintro _ _ ⟨a32, c32, rfl, rfl⟩
          refine ⟨(fun _ => (fun _ _ => trivial)), ?_⟩
          refine gt_n rfl .none rfl (o_makeS (k := 3) rfl rfl (by unfold maxLen; omega) (by omega)) ?_
          rintro _ _ ⟨a31, c31, rfl, rfl⟩
          refine ⟨(fun _ => (fun _ _ => trivial)), ?_⟩
          refine gt_v rfl .none rfl (o_build rfl rfl) ?_
          refine gt_n rfl .none rfl (o_boxA rfl) ?_
          rintro _ _ ⟨b35, rfl, rfl⟩
          refine ⟨(fun hG => absurd hG (by decide)), ?_⟩
          refine gt_v rfl .none rfl (o_assign rfl) ?_
          refine gt_nil ?_
          exact fun act wo hsl st => ⟨b35, _, hsl.keep (Keep.cons rfl (Keep.cons rfl (Keep.cons rfl (Keep.nil)))), st.imp (off_close a31 c31 a32 c32 a33 c33 none 0 [none, none, none] [false, false, false] none [] rfl rfl rfl (by simp only [offL, List.cons_append, List.nil_append]; intro h s; have s1 := fam_nil h s; have s2 := ofs_nil (e := 29) h s1; have s3 := emp0 h s2; have s4 := fam3 (X := X) (B := (BM nm nn)) h s3; exact (To.sat (by repeat (first | exact .nil | exact .done .refl | (apply To.cons; · (repeat (first | exact .head | apply Sel.tail))) | exact .done (by repeat (first | exact .refl | apply Drop.skip))))) h s4))⟩
  ·
    rintro act wo ⟨p9, t, hsl, st⟩
    refine g_of ?_ hsl st
    clear hsl st act wo
    refine g_cut (fun act wo => ∃ (i : Nat) (w : OW) (t : Int), i ≤ 600 ∧ Post.Inv (BM nm nn) i w ∧ HasSl Try.f4.ntmps [(9, ptr p9 0), (8, ptr X.m 0)] act ∧ St W0 (offA p9 X (BM nm nn) w t :: A :: R) wo) ?_ ?_
    ·
      refine g_seq ?_
      refine g_region ?_
      refine gl_v rfl (o_assign rfl) ?_
      refine gl_nil ?_
      refine ge_then ?_
      refine g_block ?_
      refine g_loop (ι := Nat × OW × Int) (fun x => x.1 ≤ vs.length ∧ x.1 ≤ 600 ∧ Post.Inv (BM nm nn) x.1 x.2.1) (fun x => [(10, I64 x.1), (9, ptr p9 0), (8, ptr X.m 0), (2, .slice a vs.length c)]) (fun x => offA p9 X (BM nm nn) x.2.1 x.2.2 :: A :: R) (fun x => 600 - x.1) (0, w0 nm nn, t) (⟨Nat.zero_le _, Nat.zero_le _, hst⟩) (Keep.cons rfl (Keep.cons rfl (Keep.cons rfl (Keep.cons rfl (Keep.nil))))) (To.sat (by repeat (first | exact .nil | exact .done .refl | (apply To.cons; · (repeat (first | exact .head | apply Sel.tail))) | exact .done (by repeat (first | exact .refl | apply Drop.skip))))) ?_
      rintro ⟨i, w, t⟩ ⟨hi, hi6, hI⟩
      replace hi : i ≤ vs.length := hi
      replace hi6 : i ≤ 600 := hi6
      replace hI : Post.Inv (BM nm nn) i w := hI
      dsimp only
      refine g_seq ?_
      refine g_seq ?_
      refine g_region ?_
      refine gl_v rfl (o_move rfl) ?_
      refine gl_v rfl (o_move rfl) ?_
      first | refine gl_v rfl (o_len rfl) ?_ | refine gl_v rfl (o_lenL rfl) ?_
      refine gl_v rfl (o_lss rfl rfl) ?_
      refine gl_v rfl (o_move rfl) ?_
      refine gl_g rfl rfl (fun hc1 => ?_) (fun hc1 => ?_) rfl
      ·
        have hc1' := hc1
        first | replace hc1' := of_decide_eq_true hc1' | replace hc1' := lt_f hc1' | replace hc1' := le_f hc1' | replace hc1' := dec_f hc1' | replace hc1' := nlt_t hc1' | replace hc1' := nle_t hc1' | replace hc1' := ndec_t hc1' | replace hc1' := ndec_f hc1' | replace hc1' := nn_t hc1' | replace hc1' := nn_f hc1' | skip
        refine gl_v rfl (o_move rfl) ?_
        refine gl_gT rfl rfl hc1 ?_
        refine gl_v rfl (o_lss rfl rfl) ?_
        refine gl_v rfl (o_pickT hc1 rfl rfl) ?_
        refine gl_nil ?_
        refine ge_then ?_
        refine g_cond rfl (fun hc2 => ?_) (fun hc2 => ?_)
        ·
          first | replace hc2 := of_decide_eq_true hc2 | replace hc2 := lt_f hc2 | replace hc2 := le_f hc2 | replace hc2 := dec_f hc2 | replace hc2 := nlt_t hc2 | replace hc2 := nle_t hc2 | replace hc2 := ndec_t hc2 | replace hc2 := ndec_f hc2 | replace hc2 := nn_t hc2 | replace hc2 := nn_f hc2 | skip
          refine g_skip ?_
          refine ge_then ?_
          refine g_seq ?_
          refine g_block ?_
          refine g_seq ?_
          have hc : i < vs.length := by omega
          have hv0 : 0 ≤ vs.getD i 0 ∧ vs.getD i 0 ≤ 255 := by rw [List.getD_eq_getElem?_getD, List.getElem?_eq_getElem hc]; exact hvs _ (List.getElem_mem hc)
          obtain ⟨pk, hpk⟩ : ∃ pk : Nat, (pk : Int) = vs.getD i 0 := ⟨(vs.getD i 0).toNat, by omega⟩
          refine g_region ?_
          refine gl_v rfl (o_move rfl) ?_
          refine gl_v rfl (o_move rfl) ?_
          refine gl_v rfl (o_idxS rfl rfl (by first | assumption | omega)) ?_
          refine gl_v rfl (o_loadS rfl (map_at (d := 0) (by omega))) ?_
          refine gl_v rfl (o_convR (pk : Int) (by rw [hpk]; exact wr_i64 (by omega)) rfl) ?_
          refine gl_v rfl (o_remR ((pk % 8 : Nat) : Int) (tmodn pk 8) rfl rfl (by decide)) ?_
          refine gl_v rfl (o_assign rfl) ?_
          refine gl_nil ?_
          refine ge_then ?_
          refine g_seq ?_
          refine g_region ?_
          refine gl_v rfl (o_move rfl) ?_
          refine gl_v rfl (o_lss rfl rfl) ?_
          refine gl_nil ?_
          refine ge_then ?_
          refine g_cond rfl (fun hc3 => ?_) (fun hc3 => ?_)
          ·
            first | replace hc3 := of_decide_eq_true hc3 | replace hc3 := lt_f hc3 | replace hc3 := le_f hc3 | replace hc3 := dec_f hc3 | replace hc3 := nlt_t hc3 | replace hc3 := nle_t hc3 | replace hc3 := ndec_t hc3 | replace hc3 := ndec_f hc3 | replace hc3 := nn_t hc3 | replace hc3 := nn_f hc3 | skip
            refine g_region ?_
            refine gl_v rfl (o_move rfl) ?_
            refine gl_v rfl (o_move rfl) ?_
            refine gl_c rfl (o_call rfl (tell_spec p9 X (BM nm nn) w t (pk % 8) false true (hI.ok hi6) (by omega)) (by repeat (first | exact .nil | (apply Part.cons; · (repeat (first | exact .head | apply Sel.tail)))))) ?_
            rintro _ R ⟨_, ⟨rfl, t1, rfl⟩, rfl⟩
            try simp only [List.cons_append, List.nil_append]
            refine gl_nil ?_
            refine ge_block ?_
            refine ge_then ?_
            refine g_region ?_
            refine gl_v rfl (o_move rfl) ?_
            refine gl_v rfl (o_addR ((i + 1 : Nat) : Int) (by rw [wr_i64 (by omega)]; omega) rfl rfl) ?_
            refine gl_v rfl (o_assign rfl) ?_
            refine gl_nil ?_
            refine ge_round (i + 1, Post.tellStep (BM nm nn) (pk % 8) false true w, t1) ⟨show i + 1 ≤ vs.length by omega, show i + 1 ≤ 600 by omega, hI.tell hi6 (show pk % 8 < 3 by omega) false true⟩ (show 600 - (i + 1) < 600 - i by omega) (Keep.cons rfl (Keep.cons rfl (Keep.cons rfl (Keep.cons rfl (Keep.nil))))) (To.sat (by repeat (first | exact .nil | exact .done .refl | (apply To.cons; · (repeat (first | exact .head | apply Sel.tail))) | exact .done (by repeat (first | exact .refl | apply Drop.skip)))))
          ·
            first | replace hc3 := of_decide_eq_true hc3 | replace hc3 := lt_f hc3 | replace hc3 := le_f hc3 | replace hc3 := dec_f hc3 | replace hc3 := nlt_t hc3 | replace hc3 := nle_t hc3 | replace hc3 := ndec_t hc3 | replace hc3 := ndec_f hc3 | replace hc3 := nn_t hc3 | replace hc3 := nn_f hc3 | skip
            refine g_seq ?_
            refine g_region ?_
            refine gl_v rfl (o_move rfl) ?_
            refine gl_v rfl (o_eql rfl rfl) ?_
            refine gl_nil ?_
            refine ge_then ?_
            refine g_cond rfl (fun hc4 => ?_) (fun hc4 => ?_)
            ·
              first | replace hc4 := of_decide_eq_true hc4 | replace hc4 := lt_f hc4 | replace hc4 := le_f hc4 | replace hc4 := dec_f hc4 | replace hc4 := nlt_t hc4 | replace hc4 := nle_t hc4 | replace hc4 := ndec_t hc4 | replace hc4 := ndec_f hc4 | replace hc4 := nn_t hc4 | replace hc4 := nn_f hc4 | skip
              refine g_region ?_
              refine gl_v rfl (o_move rfl) ?_
              refine gl_c rfl (o_call rfl (tell_spec p9 X (BM nm nn) w t 2 true true (hI.ok hi6) (by omega)) (by repeat (first | exact .nil | (apply Part.cons; · (repeat (first | exact .head | apply Sel.tail)))))) ?_
              rintro _ R ⟨_, ⟨rfl, t1, rfl⟩, rfl⟩
              try simp only [List.cons_append, List.nil_append]
              refine gl_nil ?_
              refine ge_block ?_
              refine ge_then ?_
              refine g_region ?_
              refine gl_v rfl (o_move rfl) ?_
              refine gl_v rfl (o_addR ((i + 1 : Nat) : Int) (by rw [wr_i64 (by omega)]; omega) rfl rfl) ?_
              refine gl_v rfl (o_assign rfl) ?_
              refine gl_nil ?_
              refine ge_round (i + 1, Post.tellStep (BM nm nn) 2 true true w, t1) ⟨show i + 1 ≤ vs.length by omega, show i + 1 ≤ 600 by omega, hI.tell hi6 (show 2 < 3 by decide) true true⟩ (show 600 - (i + 1) < 600 - i by omega) (Keep.cons rfl (Keep.cons rfl (Keep.cons rfl (Keep.cons rfl (Keep.nil))))) (To.sat (by repeat (first | exact .nil | exact .done .refl | (apply To.cons; · (repeat (first | exact .head | apply Sel.tail))) | exact .done (by repeat (first | exact .refl | apply Drop.skip)))))
            ·
              first | replace hc4 := of_decide_eq_true hc4 | replace hc4 := lt_f hc4 | replace hc4 := le_f hc4 | replace hc4 := dec_f hc4 | replace hc4 := nlt_t hc4 | replace hc4 := nle_t hc4 | replace hc4 := ndec_t hc4 | replace hc4 := ndec_f hc4 | replace hc4 := nn_t hc4 | replace hc4 := nn_f hc4 | skip
              refine g_cut (fun act wo => ∃ (w1 : OW) (t1 : Int) (b : Bool), ((b = true ∧ Post.Inv (BM nm nn) i w1) ∨ (b = false ∧ Post.Inv (BM nm nn) (i + 1) w1)) ∧ HasSl Try.f4.ntmps [(76, .bool b), (10, I64 i), (9, ptr p9 0), (8, ptr X.m 0), (2, .slice a vs.length c)] act ∧ St W0 (offA p9 X (BM nm nn) w1 t1 :: A :: R) wo) ?_ ?_
              ·
                refine g_region ?_
                refine gl_v rfl (o_move rfl) ?_
                refine gl_v rfl (o_lss rfl rfl) ?_
                refine gl_v rfl (o_move rfl) ?_
                refine gl_g rfl rfl (fun hc5 => ?_) (fun hc5 => ?_) rfl
                ·
                  have hc5' := hc5
                  first | replace hc5' := of_decide_eq_true hc5' | replace hc5' := lt_f hc5' | replace hc5' := le_f hc5' | replace hc5' := dec_f hc5' | replace hc5' := nlt_t hc5' | replace hc5' := nle_t hc5' | replace hc5' := ndec_t hc5' | replace hc5' := ndec_f hc5' | replace hc5' := nn_t hc5' | replace hc5' := nn_f hc5' | skip
                  refine gl_v rfl (o_move rfl) ?_
                  refine gl_gT rfl rfl hc5 ?_
                  refine gl_c rfl (o_call rfl (run_spec p9 X (BM nm nn) w t (hI.ok hi6)) (by repeat (first | exact .nil | (apply Part.cons; · (repeat (first | exact .head | apply Sel.tail)))))) ?_
                  rintro _ R ⟨_, ⟨rfl, t1, rfl⟩, rfl⟩
                  try simp only [List.cons_append, List.nil_append]
                  refine gl_gT rfl rfl hc5 ?_
                  refine gl_v rfl (o_not rfl) ?_
                  refine gl_v rfl (o_pickT hc5 rfl rfl) ?_
                  refine gl_v rfl (o_move rfl) ?_
                  refine gl_g rfl rfl (fun hc6 => ?_) (fun hc6 => ?_) rfl
                  ·
                    have hc6' := hc6
                    first | replace hc6' := of_decide_eq_true hc6' | replace hc6' := lt_f hc6' | replace hc6' := le_f hc6' | replace hc6' := dec_f hc6' | replace hc6' := nlt_t hc6' | replace hc6' := nle_t hc6' | replace hc6' := ndec_t hc6' | replace hc6' := ndec_f hc6' | replace hc6' := nn_t hc6' | replace hc6' := nn_f hc6' | skip
                    refine gl_v rfl (o_move rfl) ?_
                    refine gl_gT rfl rfl hc6 ?_
                    refine gl_v rfl (o_geq rfl rfl) ?_
                    refine gl_gT rfl rfl hc6 ?_
                    refine gl_v rfl (o_move rfl) ?_
                    refine gl_gF rfl rfl (by simp; omega) rfl ?_
                    refine gl_gF rfl rfl (by simp; omega) rfl ?_
                    refine gl_gF rfl rfl (by simp; omega) rfl ?_
                    refine gl_gT rfl rfl hc6 ?_
                    refine gl_v rfl (o_pickF (by simp; omega) rfl rfl) ?_
                    refine gl_v rfl (o_pickF hc6 rfl rfl) ?_
                    refine gl_nil ?_
                    exact fun act wo hsl st => ⟨(Post.runStep (BM nm nn) w).1, t1, false, (.inr ⟨rfl, hI.run hi6⟩), hsl.keep (Keep.cons rfl (Keep.cons rfl (Keep.cons rfl (Keep.cons rfl (Keep.cons rfl (Keep.nil)))))), st.imp (To.sat (by repeat (first | exact .nil | exact .done .refl | (apply To.cons; · (repeat (first | exact .head | apply Sel.tail))) | exact .done (by repeat (first | exact .refl | apply Drop.skip)))))⟩
                  ·
                    have hc6' := hc6
                    first | replace hc6' := of_decide_eq_true hc6' | replace hc6' := lt_f hc6' | replace hc6' := le_f hc6' | replace hc6' := dec_f hc6' | replace hc6' := nlt_t hc6' | replace hc6' := nle_t hc6' | replace hc6' := ndec_t hc6' | replace hc6' := ndec_f hc6' | replace hc6' := nn_t hc6' | replace hc6' := nn_f hc6' | skip
                    simp only [putO]
                    refine gl_gF rfl rfl hc6 rfl ?_
                    refine gl_gF rfl rfl hc6 rfl ?_
                    refine gl_gU rfl rfl rfl ?_
                    refine gl_gU rfl rfl rfl ?_
                    refine gl_gU rfl rfl rfl ?_
                    refine gl_gF rfl rfl hc6 rfl ?_
                    refine gl_v rfl (o_pickT hc6 rfl rfl) ?_
                    refine gl_nil ?_
                    exact fun act wo hsl st => ⟨(Post.runStep (BM nm nn) w).1, t1, true, (.inl ⟨rfl, by rw [(run_false (by assumption)).1]; exact hI⟩), hsl.keep (Keep.cons rfl (Keep.cons rfl (Keep.cons rfl (Keep.cons rfl (Keep.cons rfl (Keep.nil)))))), st.imp (To.sat (by repeat (first | exact .nil | exact .done .refl | (apply To.cons; · (repeat (first | exact .head | apply Sel.tail))) | exact .done (by repeat (first | exact .refl | apply Drop.skip)))))⟩
                ·
                  have hc5' := hc5
                  first | replace hc5' := of_decide_eq_true hc5' | replace hc5' := lt_f hc5' | replace hc5' := le_f hc5' | replace hc5' := dec_f hc5' | replace hc5' := nlt_t hc5' | replace hc5' := nle_t hc5' | replace hc5' := ndec_t hc5' | replace hc5' := ndec_f hc5' | replace hc5' := nn_t hc5' | replace hc5' := nn_f hc5' | skip
                  simp only [putO]
                  refine gl_gF rfl rfl hc5 rfl ?_
                  refine gl_gF rfl rfl hc5 rfl ?_
                  refine gl_v rfl (o_pickF hc5 rfl rfl) ?_
                  refine gl_v rfl (o_move rfl) ?_
                  refine gl_gT rfl rfl rfl ?_
                  refine gl_v rfl (o_move rfl) ?_
                  refine gl_gT rfl rfl rfl ?_
                  refine gl_v rfl (o_geq rfl rfl) ?_
                  refine gl_gT rfl rfl rfl ?_
                  refine gl_v rfl (o_move rfl) ?_
                  refine gl_gT rfl rfl (by simp; omega) ?_
                  refine gl_v rfl (o_move rfl) ?_
                  refine gl_gT rfl rfl (by simp; omega) ?_
                  refine gl_c rfl (o_call rfl (olay_spec p9 X (BM nm nn) w t (hI.ok hi6)) (by repeat (first | exact .nil | (apply Part.cons; · (repeat (first | exact .head | apply Sel.tail)))))) ?_
                  rintro _ R ⟨_, ⟨rfl, t1, rfl⟩, rfl⟩
                  try simp only [List.cons_append, List.nil_append]
                  refine gl_gT rfl rfl (by simp; omega) ?_
                  refine gl_v rfl (o_not rfl) ?_
                  refine gl_gT rfl rfl rfl ?_
                  refine gl_v rfl (o_pickT (by simp; omega) rfl rfl) ?_
                  refine gl_v rfl (o_pickF rfl rfl rfl) ?_
                  refine gl_nil ?_
                  exact fun act wo hsl st => ⟨(Post.layStep (BM nm nn) w).1, t1, (!(Post.layStep (BM nm nn) w).2), (by cases (Post.layStep (BM nm nn) w).2; exact .inl ⟨rfl, hI.lay hi6⟩; exact .inr ⟨rfl, (hI.lay hi6).more⟩), hsl.keep (Keep.cons rfl (Keep.cons rfl (Keep.cons rfl (Keep.cons rfl (Keep.cons rfl (Keep.nil)))))), st.imp (To.sat (by repeat (first | exact .nil | exact .done .refl | (apply To.cons; · (repeat (first | exact .head | apply Sel.tail))) | exact .done (by repeat (first | exact .refl | apply Drop.skip)))))⟩
              ·
                rintro act wo ⟨w1, t1, b, hb, hsl, st⟩
                refine g_of ?_ hsl st
                clear hsl st act wo
                refine g_cond rfl (fun hc7 => ?_) (fun hc7 => ?_)
                ·
                  first | replace hc7 := of_decide_eq_true hc7 | replace hc7 := lt_f hc7 | replace hc7 := le_f hc7 | replace hc7 := dec_f hc7 | replace hc7 := nlt_t hc7 | replace hc7 := nle_t hc7 | replace hc7 := ndec_t hc7 | replace hc7 := ndec_f hc7 | replace hc7 := nn_t hc7 | replace hc7 := nn_f hc7 | skip
                  have hI1 : Post.Inv (BM nm nn) i w1 := by
                    rcases hb with ⟨_, h⟩ | ⟨h, _⟩
                    · exact h
                    · rw [h] at hc7; cases hc7
                  refine g_seq ?_
                  refine g_region ?_
                  refine gl_v rfl (o_move rfl) ?_
                  refine gl_c rfl (o_call rfl (olay_spec p9 X (BM nm nn) w1 t1 (hI1.ok hi6)) (by repeat (first | exact .nil | (apply Part.cons; · (repeat (first | exact .head | apply Sel.tail)))))) ?_
                  rintro _ R ⟨_, ⟨rfl, t2, rfl⟩, rfl⟩
                  try simp only [List.cons_append, List.nil_append]
                  refine gl_nil ?_
                  refine ge_then ?_
                  refine g_region ?_
                  refine gl_v rfl (o_move rfl) ?_
                  refine gl_c rfl (o_call rfl (run_spec p9 X (BM nm nn) (Post.layStep (BM nm nn) w1).1 t2 ((hI1.lay hi6).ok hi6)) (by repeat (first | exact .nil | (apply Part.cons; · (repeat (first | exact .head | apply Sel.tail)))))) ?_
                  rintro _ R ⟨_, ⟨rfl, t3, rfl⟩, rfl⟩
                  try simp only [List.cons_append, List.nil_append]
                  refine gl_nil ?_
                  refine ge_block ?_
                  refine ge_then ?_
                  refine g_region ?_
                  refine gl_v rfl (o_move rfl) ?_
                  refine gl_v rfl (o_addR ((i + 1 : Nat) : Int) (by rw [wr_i64 (by omega)]; omega) rfl rfl) ?_
                  refine gl_v rfl (o_assign rfl) ?_
                  refine gl_nil ?_
                  refine ge_round (i + 1, (Post.runStep (BM nm nn) (Post.layStep (BM nm nn) w1).1).1, t3) ⟨show i + 1 ≤ vs.length by omega, show i + 1 ≤ 600 by omega, (hI1.lay hi6).run hi6⟩ (show 600 - (i + 1) < 600 - i by omega) (Keep.cons rfl (Keep.cons rfl (Keep.cons rfl (Keep.cons rfl (Keep.nil))))) (To.sat (by repeat (first | exact .nil | exact .done .refl | (apply To.cons; · (repeat (first | exact .head | apply Sel.tail))) | exact .done (by repeat (first | exact .refl | apply Drop.skip)))))
                ·
                  first | replace hc7 := of_decide_eq_true hc7 | replace hc7 := lt_f hc7 | replace hc7 := le_f hc7 | replace hc7 := dec_f hc7 | replace hc7 := nlt_t hc7 | replace hc7 := nle_t hc7 | replace hc7 := ndec_t hc7 | replace hc7 := ndec_f hc7 | replace hc7 := nn_t hc7 | replace hc7 := nn_f hc7 | skip
                  have hI1 : Post.Inv (BM nm nn) (i + 1) w1 := by
                    rcases hb with ⟨h, _⟩ | ⟨_, h⟩
                    · rw [h] at hc7; cases hc7
                    · exact h
                  refine g_skip ?_
                  refine ge_block ?_
                  refine ge_then ?_
                  refine g_region ?_
                  refine gl_v rfl (o_move rfl) ?_
                  refine gl_v rfl (o_addR ((i + 1 : Nat) : Int) (by rw [wr_i64 (by omega)]; omega) rfl rfl) ?_
                  refine gl_v rfl (o_assign rfl) ?_
                  refine gl_nil ?_
                  refine ge_round (i + 1, w1, t1) ⟨show i + 1 ≤ vs.length by omega, show i + 1 ≤ 600 by omega, hI1⟩ (show 600 - (i + 1) < 600 - i by omega) (Keep.cons rfl (Keep.cons rfl (Keep.cons rfl (Keep.cons rfl (Keep.nil))))) (To.sat (by repeat (first | exact .nil | exact .done .refl | (apply To.cons; · (repeat (first | exact .head | apply Sel.tail))) | exact .done (by repeat (first | exact .refl | apply Drop.skip)))))
        ·
          first | replace hc2 := of_decide_eq_true hc2 | replace hc2 := lt_f hc2 | replace hc2 := le_f hc2 | replace hc2 := dec_f hc2 | replace hc2 := nlt_t hc2 | replace hc2 := nle_t hc2 | replace hc2 := ndec_t hc2 | replace hc2 := ndec_f hc2 | replace hc2 := nn_t hc2 | replace hc2 := nn_f hc2 | skip
          refine g_exit ?_
          refine ge_then_exit ?_
          refine ge_then_exit ?_
          refine ge_block_exit ?_
          exact fun act wo hsl st => ⟨i, w, t, hi6, hI, hsl.keep (Keep.cons rfl (Keep.cons rfl (Keep.nil))), st.imp (To.sat (by repeat (first | exact .nil | exact .done .refl | (apply To.cons; · (repeat (first | exact .head | apply Sel.tail))) | exact .done (by repeat (first | exact .refl | apply Drop.skip)))))⟩
      ·
        have hc1' := hc1
        first | replace hc1' := of_decide_eq_true hc1' | replace hc1' := lt_f hc1' | replace hc1' := le_f hc1' | replace hc1' := dec_f hc1' | replace hc1' := nlt_t hc1' | replace hc1' := nle_t hc1' | replace hc1' := ndec_t hc1' | replace hc1' := ndec_f hc1' | replace hc1' := nn_t hc1' | replace hc1' := nn_f hc1' | skip
        simp only [putO]
        refine gl_gF rfl rfl hc1 rfl ?_
        refine gl_v rfl (o_pickF hc1 rfl rfl) ?_
        refine gl_nil ?_
        refine ge_then ?_
        refine g_cond_false rfl ?_
        refine g_exit ?_
        refine ge_then_exit ?_
        refine ge_then_exit ?_
        refine ge_block_exit ?_
        exact fun act wo hsl st => ⟨i, w, t, hi6, hI, hsl.keep (Keep.cons rfl (Keep.cons rfl (Keep.nil))), st.imp (To.sat (by repeat (first | exact .nil | exact .done .refl | (apply To.cons; · (repeat (first | exact .head | apply Sel.tail))) | exact .done (by repeat (first | exact .refl | apply Drop.skip)))))⟩
    ·
      rintro act wo ⟨i, w, t, hi6, hI, hsl, st⟩
      refine g_of ?_ hsl st
      clear hsl st act wo
      refine g_seq ?_
      refine g_seq ?_
      refine g_region ?_
      refine gl_v rfl (o_assign rfl) ?_
      refine gl_nil ?_
      refine ge_then ?_
      refine g_block ?_
      refine g_loop (ι := Nat × Int) (fun x => x.1 ≤ 100) (fun x => [(12, I64 x.1), (9, ptr p9 0), (8, ptr X.m 0)]) (fun x => offA p9 X (BM nm nn) (quietN (BM nm nn) x.1 w) x.2 :: A :: R) (fun x => 100 - x.1) (0, t) (Nat.zero_le _) (Keep.cons rfl (Keep.cons rfl (Keep.cons rfl (Keep.nil)))) (To.sat (by repeat (first | exact .nil | exact .done .refl | (apply To.cons; · (repeat (first | exact .head | apply Sel.tail))) | exact .done (by repeat (first | exact .refl | apply Drop.skip))))) ?_
      rintro ⟨j, t⟩ hj
      replace hj : j ≤ 100 := hj
      dsimp only
      refine g_seq ?_
      refine g_seq ?_
      refine g_region ?_
      refine gl_v rfl (o_move rfl) ?_
      refine gl_v rfl (o_lss rfl rfl) ?_
      refine gl_nil ?_
      refine ge_then ?_
      refine g_cond rfl (fun hc8 => ?_) (fun hc8 => ?_)
      ·
        first | replace hc8 := of_decide_eq_true hc8 | replace hc8 := lt_f hc8 | replace hc8 := le_f hc8 | replace hc8 := dec_f hc8 | replace hc8 := nlt_t hc8 | replace hc8 := nle_t hc8 | replace hc8 := ndec_t hc8 | replace hc8 := ndec_f hc8 | replace hc8 := nn_t hc8 | replace hc8 := nn_f hc8 | skip
        refine g_skip ?_
        refine ge_then ?_
        refine g_seq ?_
        refine g_block ?_
        refine g_region ?_
        refine gl_v rfl (o_move rfl) ?_
        refine gl_v rfl (o_move rfl) ?_
        refine gl_v rfl (o_remR ((j % 3 : Nat) : Int) (tmodn j 3) rfl rfl (by decide)) ?_
        refine gl_c rfl (o_call rfl (tell_spec p9 X (BM nm nn) (quietN (BM nm nn) j w) t (j % 3) false false (hI.quiet hi6 (by omega)) (Nat.mod_lt _ (by decide))) (by repeat (first | exact .nil | (apply Part.cons; · (repeat (first | exact .head | apply Sel.tail)))))) ?_
        rintro _ R ⟨_, ⟨rfl, t1, rfl⟩, rfl⟩
        try simp only [List.cons_append, List.nil_append]
        refine gl_nil ?_
        refine ge_block ?_
        refine ge_then ?_
        refine g_region ?_
        refine gl_v rfl (o_move rfl) ?_
        refine gl_v rfl (o_addR ((j + 1 : Nat) : Int) (by rw [wr_i64 (by omega)]; omega) rfl rfl) ?_
        refine gl_v rfl (o_assign rfl) ?_
        refine gl_nil ?_
        refine ge_round (j + 1, t1) (show j + 1 ≤ 100 by omega) (show 100 - (j + 1) < 100 - j by omega) (Keep.cons rfl (Keep.cons rfl (Keep.cons rfl (Keep.nil)))) (To.sat (by repeat (first | exact .nil | exact .done .refl | (apply To.cons; · (repeat (first | exact .head | apply Sel.tail))) | exact .done (by repeat (first | exact .refl | apply Drop.skip)))))
      ·
        first | replace hc8 := of_decide_eq_true hc8 | replace hc8 := lt_f hc8 | replace hc8 := le_f hc8 | replace hc8 := dec_f hc8 | replace hc8 := nlt_t hc8 | replace hc8 := nle_t hc8 | replace hc8 := ndec_t hc8 | replace hc8 := ndec_f hc8 | replace hc8 := nn_t hc8 | replace hc8 := nn_f hc8 | skip
        obtain rfl : j = 100 := by omega
        have hP0 := hI.calm hi6 h1.2 h2.2
        generalize quietN (BM nm nn) 100 w = w2 at hP0 ⊢
        refine g_exit ?_
        refine ge_then_exit ?_
        refine ge_then_exit ?_
        refine ge_block_exit ?_
        refine ge_then ?_
        refine g_cut (fun act wo => ∃ (w : OW) (t : Int), OkW (BM nm nn) w ∧ w.most ≤ 1 ∧ w.chg = 0 ∧ w.got = w.inn ∧ w.L.getD 0 0 = 0 ∧ HasSl Try.f4.ntmps [(9, ptr p9 0), (8, ptr X.m 0)] act ∧ St W0 (offA p9 X (BM nm nn) w t :: A :: R) wo) ?_ ?_
        ·
          refine g_seq ?_
          refine g_region ?_
          refine gl_v rfl (o_assign rfl) ?_
          refine gl_nil ?_
          refine ge_then ?_
          refine g_block ?_
          refine g_loop (ι := Nat × OW × Int) (fun x => PInv (BM nm nn) i x.1 x.2.1) (fun x => [(13, I64 x.1), (9, ptr p9 0), (8, ptr X.m 0)]) (fun x => offA p9 X (BM nm nn) x.2.1 x.2.2 :: A :: R) (fun x => 3000 - x.1) (0, w2, t) (hP0) (Keep.cons rfl (Keep.cons rfl (Keep.cons rfl (Keep.nil)))) (To.sat (by repeat (first | exact .nil | exact .done .refl | (apply To.cons; · (repeat (first | exact .head | apply Sel.tail))) | exact .done (by repeat (first | exact .refl | apply Drop.skip))))) ?_
          rintro ⟨n, w, t⟩ hP
          replace hP : PInv (BM nm nn) i n w := hP
          have hn : n ≤ 2620 := by
            obtain ⟨_, _, _, _, _, h⟩ := hP
            omega
          dsimp only
          refine g_seq ?_
          refine g_seq ?_
          refine g_region ?_
          refine gl_v rfl (o_move rfl) ?_
          refine gl_v rfl (o_lss rfl rfl) ?_
          refine gl_v rfl (o_move rfl) ?_
          refine gl_g rfl rfl (fun hc9 => ?_) (fun hc9 => ?_) rfl
          ·
            have hc9' := hc9
            first | replace hc9' := of_decide_eq_true hc9' | replace hc9' := lt_f hc9' | replace hc9' := le_f hc9' | replace hc9' := dec_f hc9' | replace hc9' := nlt_t hc9' | replace hc9' := nle_t hc9' | replace hc9' := ndec_t hc9' | replace hc9' := ndec_f hc9' | replace hc9' := nn_t hc9' | replace hc9' := nn_f hc9' | skip
            refine gl_v rfl (o_move rfl) ?_
            refine gl_gT rfl rfl hc9 ?_
            refine gl_c rfl (o_call rfl (run_spec p9 X (BM nm nn) w t (hP.ok hi6)) (by repeat (first | exact .nil | (apply Part.cons; · (repeat (first | exact .head | apply Sel.tail)))))) ?_
            rintro _ R ⟨_, ⟨rfl, t1, rfl⟩, rfl⟩
            try simp only [List.cons_append, List.nil_append]
            refine gl_gT rfl rfl hc9 ?_
            refine gl_v rfl (o_move rfl) ?_
            refine gl_g rfl rfl (fun hc10 => ?_) (fun hc10 => ?_) rfl
            ·
              have hc10' := hc10
              first | replace hc10' := of_decide_eq_true hc10' | replace hc10' := lt_f hc10' | replace hc10' := le_f hc10' | replace hc10' := dec_f hc10' | replace hc10' := nlt_t hc10' | replace hc10' := nle_t hc10' | replace hc10' := ndec_t hc10' | replace hc10' := ndec_f hc10' | replace hc10' := nn_t hc10' | replace hc10' := nn_f hc10' | skip
              refine gl_v rfl (o_move rfl) ?_
              refine gl_gT rfl rfl hc10 ?_
              obtain ⟨hrw, hch0⟩ := run_false (B := (BM nm nn)) (w := w) (by assumption)
              rw [hrw]
              refine gl_c rfl (o_call rfl (olay_spec p9 X (BM nm nn) w t1 (hP.ok hi6)) (by repeat (first | exact .nil | (apply Part.cons; · (repeat (first | exact .head | apply Sel.tail)))))) ?_
              rintro _ R ⟨_, ⟨rfl, t2, rfl⟩, rfl⟩
              try simp only [List.cons_append, List.nil_append]
              refine gl_gT rfl rfl hc9 ?_
              refine gl_v rfl (o_pickF hc10 rfl rfl) ?_
              refine gl_v rfl (o_pickT hc9 rfl rfl) ?_
              refine gl_nil ?_
              refine ge_then ?_
              refine g_cond rfl (fun hc11 => ?_) (fun hc11 => ?_)
              ·
                first | replace hc11 := of_decide_eq_true hc11 | replace hc11 := lt_f hc11 | replace hc11 := le_f hc11 | replace hc11 := dec_f hc11 | replace hc11 := nlt_t hc11 | replace hc11 := nle_t hc11 | replace hc11 := ndec_t hc11 | replace hc11 := ndec_f hc11 | replace hc11 := nn_t hc11 | replace hc11 := nn_f hc11 | skip
                refine g_skip ?_
                refine ge_then ?_
                refine g_seq ?_
                refine g_block ?_
                refine g_skip ?_
                refine ge_block ?_
                refine ge_then ?_
                refine g_region ?_
                refine gl_v rfl (o_move rfl) ?_
                refine gl_v rfl (o_addR ((n + 1 : Nat) : Int) (by rw [wr_i64 (by omega)]; omega) rfl rfl) ?_
                refine gl_v rfl (o_assign rfl) ?_
                refine gl_nil ?_
                refine ge_round (n + 1, (Post.layStep (BM nm nn) w).1, t2) (hP.lay hi6 hch0 (by assumption)) (show 3000 - (n + 1) < 3000 - n by omega) (Keep.cons rfl (Keep.cons rfl (Keep.cons rfl (Keep.nil)))) (To.sat (by repeat (first | exact .nil | exact .done .refl | (apply To.cons; · (repeat (first | exact .head | apply Sel.tail))) | exact .done (by repeat (first | exact .refl | apply Drop.skip)))))
              ·
                first | replace hc11 := of_decide_eq_true hc11 | replace hc11 := lt_f hc11 | replace hc11 := le_f hc11 | replace hc11 := dec_f hc11 | replace hc11 := nlt_t hc11 | replace hc11 := nle_t hc11 | replace hc11 := ndec_t hc11 | replace hc11 := ndec_f hc11 | replace hc11 := nn_t hc11 | replace hc11 := nn_f hc11 | skip
                obtain ⟨hlw, hse⟩ := lay_false (B := (BM nm nn)) (w := w) hc11
                rw [hlw]
                refine g_exit ?_
                refine ge_then_exit ?_
                refine ge_then_exit ?_
                refine ge_block_exit ?_
                exact fun act wo hsl st => ⟨w, t2, hP.ok hi6, (hP.fin hch0 hse).1, hch0, (hP.fin hch0 hse).2.1, (hP.fin hch0 hse).2.2, hsl.keep (Keep.cons rfl (Keep.cons rfl (Keep.nil))), st.imp (To.sat (by repeat (first | exact .nil | exact .done .refl | (apply To.cons; · (repeat (first | exact .head | apply Sel.tail))) | exact .done (by repeat (first | exact .refl | apply Drop.skip)))))⟩
            ·
              have hc10' := hc10
              first | replace hc10' := of_decide_eq_true hc10' | replace hc10' := lt_f hc10' | replace hc10' := le_f hc10' | replace hc10' := dec_f hc10' | replace hc10' := nlt_t hc10' | replace hc10' := nle_t hc10' | replace hc10' := ndec_t hc10' | replace hc10' := ndec_f hc10' | replace hc10' := nn_t hc10' | replace hc10' := nn_f hc10' | skip
              simp only [putO]
              refine gl_gF rfl rfl hc10 rfl ?_
              refine gl_gT rfl rfl hc9 ?_
              refine gl_v rfl (o_pickT hc10 rfl rfl) ?_
              refine gl_v rfl (o_pickT hc9 rfl rfl) ?_
              refine gl_nil ?_
              refine ge_then ?_
              refine g_cond_true rfl ?_
              refine g_skip ?_
              refine ge_then ?_
              refine g_seq ?_
              refine g_block ?_
              refine g_skip ?_
              refine ge_block ?_
              refine ge_then ?_
              refine g_region ?_
              refine gl_v rfl (o_move rfl) ?_
              refine gl_v rfl (o_addR ((n + 1 : Nat) : Int) (by rw [wr_i64 (by omega)]; omega) rfl rfl) ?_
              refine gl_v rfl (o_assign rfl) ?_
              refine gl_nil ?_
              refine ge_round (n + 1, (Post.runStep (BM nm nn) w).1, t1) (hP.run hi6 (by assumption)) (show 3000 - (n + 1) < 3000 - n by omega) (Keep.cons rfl (Keep.cons rfl (Keep.cons rfl (Keep.nil)))) (To.sat (by repeat (first | exact .nil | exact .done .refl | (apply To.cons; · (repeat (first | exact .head | apply Sel.tail))) | exact .done (by repeat (first | exact .refl | apply Drop.skip)))))
          ·
            have hc9' := hc9
            first | replace hc9' := of_decide_eq_true hc9' | replace hc9' := lt_f hc9' | replace hc9' := le_f hc9' | replace hc9' := dec_f hc9' | replace hc9' := nlt_t hc9' | replace hc9' := nle_t hc9' | replace hc9' := ndec_t hc9' | replace hc9' := ndec_f hc9' | replace hc9' := nn_t hc9' | replace hc9' := nn_f hc9' | skip
            simp only [putO]
            refine gl_gF rfl rfl hc9 rfl ?_
            refine gl_gF rfl rfl hc9 rfl ?_
            refine gl_gU rfl rfl rfl ?_
            refine gl_gU rfl rfl rfl ?_
            refine gl_gF rfl rfl hc9 rfl ?_
            refine gl_v rfl (o_pickF hc9 rfl rfl) ?_
            refine gl_nil ?_
            refine ge_then ?_
            refine g_cond_false rfl ?_
            refine g_exit ?_
            refine ge_then_exit ?_
            refine ge_then_exit ?_
            refine ge_block_exit ?_
            exact fun act wo hsl st => ⟨w, t, hP.ok hi6, (by omega), (by omega), (by omega), (by omega), hsl.keep (Keep.cons rfl (Keep.cons rfl (Keep.nil))), st.imp (To.sat (by repeat (first | exact .nil | exact .done .refl | (apply To.cons; · (repeat (first | exact .head | apply Sel.tail))) | exact .done (by repeat (first | exact .refl | apply Drop.skip)))))⟩
        ·
          rintro act wo ⟨w, t, hw, hmost, hchg0, hgi, hL0, hsl, st⟩
          refine g_of ?_ hsl st
          clear hsl st act wo
          refine g_seq ?_
          replace hmost : w.most ≤ 1 := hmost
          obtain ⟨L, ts, nx, inn, chg, most, wk0, ph, got, se⟩ := w
          refine g_open (l := offL p9 X (BM nm nn) _ t) (by repeat (first | exact .head | apply Sel.tail)) ?_
          rintro ⟨a1, c1, a2, c2, a3, c3, a4, c4, us, nts, wk, ss⟩ ⟨hul, hnl, hxl, hts, hwk, hse⟩
          replace hul : us.length = 3 := hul
          replace hnl : nts.length = 3 := hnl
          replace hxl : nx.length = 3 := hxl
          obtain rfl : us2 us = ts := hts
          obtain rfl : wk.map (·.2) = wk0 := hwk
          obtain rfl : ss.map (·.2) = se := hse
          have hpi : PI (BM nm nn) L := hw.pi
          have hli : LI L := hw.li
          have hinn : -10 ≤ inn ∧ inn ≤ 1000000 := hw.inn
          have hchg : 0 ≤ chg ∧ chg ≤ 1 := hw.chg
          have hph : 0 ≤ ph ∧ ph ≤ 3 := hw.ph
          have hgot : 0 ≤ got ∧ got ≤ 1000000 := hw.got
          have hfew : ss.length ≤ 1000 := by have := hw.few; simpa using this
          simp only [offL, List.cons_append, List.nil_append]
          replace hmost : most ≤ 1 := hmost
          replace hchg0 : chg = 0 := hchg0
          replace hgi : got = inn := hgi
          replace hL0 : L.getD 0 0 = 0 := hL0
          refine g_draw [25] [] [(0, .loc), (1, .loc), (2, .loc), (3, .loc), (4, .loc), (5, .loc), (6, .loc), (7, .loc), (8, .loc), (9, .loc), (10, .loc), (11, .loc), (12, .loc), (13, .loc), (14, .loc), (15, .loc), (16, .loc), (17, .loc), (18, .loc), (19, .loc), (20, .loc), (21, .loc), (22, .loc), (23, .loc), (24, .loc), (25, .eff), (26, .loc), (27, .loc), (28, .loc)] [] mixed (by kernel_rfl) ?_
          refine go_v rfl .none rfl (o_move rfl) ?_
          refine go_v rfl .none rfl (o_nil rfl) ?_
          first | refine go_v rfl .none rfl (o_fldS rfl) ?_ | refine go_v rfl .none rfl (o_fld rfl) ?_
          first | refine go_v rfl .none rfl (o_load rfl rfl) ?_ | refine go_v rfl .none rfl (o_loadS rfl rfl) ?_ | refine go_v rfl .none rfl (o_loadC rfl) ?_
          refine go_v rfl .none rfl (o_is (c := true) (by rw [decide_eq_true_eq]; exact hmost) (o_leq rfl rfl)) ?_
          refine go_v rfl .none rfl (o_move rfl) ?_
          refine go_v rfl (.yes rfl rfl rfl) rfl (o_move rfl) ?_
          refine go_v rfl (.yes rfl rfl rfl) rfl (o_nil rfl) ?_
          first | refine go_v rfl (.yes rfl rfl rfl) rfl (o_fldS rfl) ?_ | refine go_v rfl (.yes rfl rfl rfl) rfl (o_fld rfl) ?_
          first | refine go_v rfl (.yes rfl rfl rfl) rfl (o_load rfl rfl) ?_ | refine go_v rfl (.yes rfl rfl rfl) rfl (o_loadS rfl rfl) ?_ | refine go_v rfl (.yes rfl rfl rfl) rfl (o_loadC rfl) ?_
          refine go_v rfl (.yes rfl rfl rfl) rfl (o_is (c := true) (by rw [decide_eq_true_eq]; exact hchg0) (o_eql rfl rfl)) ?_
          refine go_v rfl .none rfl (o_pickT rfl rfl rfl) ?_
          refine go_v rfl .none rfl (o_move rfl) ?_
          refine go_v rfl (.yes rfl rfl rfl) rfl (o_move rfl) ?_
          refine go_v rfl (.yes rfl rfl rfl) rfl (o_nil rfl) ?_
          first | refine go_v rfl (.yes rfl rfl rfl) rfl (o_fldS rfl) ?_ | refine go_v rfl (.yes rfl rfl rfl) rfl (o_fld rfl) ?_
          first | refine go_v rfl (.yes rfl rfl rfl) rfl (o_load rfl rfl) ?_ | refine go_v rfl (.yes rfl rfl rfl) rfl (o_loadS rfl rfl) ?_ | refine go_v rfl (.yes rfl rfl rfl) rfl (o_loadC rfl) ?_
          refine go_v rfl (.yes rfl rfl rfl) rfl (o_move rfl) ?_
          refine go_v rfl (.yes rfl rfl rfl) rfl (o_nil rfl) ?_
          first | refine go_v rfl (.yes rfl rfl rfl) rfl (o_fldS rfl) ?_ | refine go_v rfl (.yes rfl rfl rfl) rfl (o_fld rfl) ?_
          first | refine go_v rfl (.yes rfl rfl rfl) rfl (o_load rfl rfl) ?_ | refine go_v rfl (.yes rfl rfl rfl) rfl (o_loadS rfl rfl) ?_ | refine go_v rfl (.yes rfl rfl rfl) rfl (o_loadC rfl) ?_
          refine go_v rfl (.yes rfl rfl rfl) rfl (o_is (c := true) (by rw [decide_eq_true_eq]; exact hgi) (o_eql rfl rfl)) ?_
          refine go_v rfl .none rfl (o_pickT rfl rfl rfl) ?_
          refine go_v rfl .none rfl (o_move rfl) ?_
          refine go_v rfl (.yes rfl rfl rfl) rfl (o_move rfl) ?_
          refine go_c rfl (.yes rfl rfl rfl) rfl (o_call rfl (Peek_off X (BM nm nn) L t 0 (by have := hpi.len; omega)) (by repeat (first | exact .nil | (apply Part.cons; · (repeat (first | exact .head | apply Sel.tail)))))) ?_
          rintro _ R ⟨_, ⟨rfl, rfl⟩, rfl⟩
          try simp only [List.cons_append, List.nil_append]
          refine ⟨(fun hG => absurd hG (by decide)), ?_⟩
          refine go_v rfl (.yes rfl rfl rfl) rfl (o_is (c := true) (by rw [decide_eq_true_eq]; exact hL0) (o_eql rfl rfl)) ?_
          refine go_v rfl .none rfl (o_pickT rfl rfl rfl) ?_
          refine go_v rfl .none rfl (o_assign rfl) ?_
          refine go_nil ?_
          refine ge_then ?_
          refine g_ret ?_
          refine ret1 (.inl rfl) rfl rfl _ (⟨rfl, rfl⟩) (To.sat (by repeat (first | exact .nil | exact .done .refl | (apply To.cons; · (repeat (first | exact .head | apply Sel.tail))) | exact .done (by repeat (first | exact .refl | apply Drop.skip)))))

end Go.Proofs.Ytkpgcdhepfgfaaa.L
