/-
  The clock's operations, piece by piece. Own work, printed in part by a program of its own.
-/
import Derived.Test.YtmohikdmdmplaaaGreatClkF
import Derived.Test.YtmohikdmdmplaaaGreatWheelB
set_option linter.unusedSimpArgs false
set_option linter.unusedVariables false
set_option linter.unusedSectionVars false
namespace Go.Proofs.YtmohikdmdmplaaaGreat.L
open Go.L Go.L.Ring Go.L.Post Go.L.Clk Go.L.Whl
structure KX where
  c : Nat
  m : Nat
  r : Nat
  wp : Nat
abbrev clkA (X : KX) (B : CB) : Assn := cel X.c 87 [ptr X.m 0, I64 B.b, I64 B.n, ptr X.r 0, ptr X.wp 0]
abbrev tl (a : Option Addr) (k : Nat) (l : List Int) : Value := .slice a l.length k
abbrev tlA (a : Option Addr) (k : Nat) (l : List Int) : Assn := own (.slice a l.length k) 22 1 l.length (l.map U64)
abbrev bxK (X : KX) (d u r : Value) : BXT := ⟨X.c, d, u, r⟩
abbrev nilS : Value := .slice none 0 0
abbrev KI := Nat × Nat × Nat × Nat × Option Addr × Nat × Option Addr × Nat
def phK (X : KX) (B : CB) (p : Nat) (cut ref : List Int) : CPh → Assn
  | .put o => exA (ι := KI) (fun _ => True) (fun e => match e with | (q, c1, c2, c3, a1, k1, a2, k2) => [opC p (iR q) (fnV 63 [ptr c1 0, ptr c2 0]) 0 0 (bxK X nilS (tl a1 k1 cut) (tl a2 k2 ref)), opA q X.r o, cel c1 29 [ptr p 0], cel c2 116 [ptr q 0], tlA a1 k1 cut, tlA a2 k2 ref])
  | .now => exA (ι := KI) (fun _ => True) (fun e => match e with | (τ, c1, c2, c3, a1, k1, a2, k2) => [opC p (iT τ) (fnV 53 [ptr c1 0, ptr c2 0]) 0 0 (bxK X nilS (tl a1 k1 cut) (tl a2 k2 ref)), tLoad τ X.m B.b, cel c1 29 [ptr p 0], cel c2 101 [ptr τ 0], tlA a1 k1 cut, tlA a2 k2 ref])
  | .take left o => exA (ι := KI) (fun _ => True) (fun e => match e with | (q, c1, c2, c3, a1, k1, a2, k2) => [opC p (iR q) (fnV 67 [ptr c1 0, ptr c2 0, ptr c3 0]) 0 0 (bxK X nilS (tl a1 k1 cut) (tl a2 k2 ref)), opA q X.r o, cel c1 116 [ptr q 0], cel c2 29 [ptr p 0], cel c3 3 [I64 left], tlA a1 k1 cut, tlA a2 k2 ref])
  | .tick v => exA (ι := KI) (fun _ => True) (fun e => match e with | (τ, c1, c2, c3, a1, k1, a2, k2) => [opC p (iT τ) (fnV 86 [ptr c1 0]) 0 0 (bxK X nilS (tl a1 k1 cut) (tl a2 k2 ref)), tStore τ X.m B.b v, cel c1 29 [ptr p 0], tlA a1 k1 cut, tlA a2 k2 ref])
abbrev VI := Value × Value × Option Addr × Nat × Option Addr × Nat × Option Addr × Nat
def ovK (X : KX) (p : Nat) (co : CO) : Assn := exA (ι := VI) (fun _ => True) (fun e => match e with | (x, y, a0, k0, a1, k1, a2, k2) => [opC p x y co.out co.val (bxK X (tl a0 k0 co.due) (tl a1 k1 co.cut) (tl a2 k2 co.ref)), tlA a0 k0 co.due, tlA a1 k1 co.cut, tlA a2 k2 co.ref])
def opK (X : KX) (B : CB) (p : Nat) (co : CO) : Assn := if co.out = 0 then phK X B p co.cut co.ref co.ph else ovK X p co
theorem op_go {X : KX} {B : CB} {p : Nat} {co : CO} {As R : List Assn} (h0 : co.out = 0) (h : ∀ h, Sat As h → Sat (phK X B p co.cut co.ref co.ph :: R) h) : ∀ h, Sat As h → Sat (opK X B p co :: R) h := by
  unfold opK; rw [if_pos h0]; exact h
theorem op_ov {X : KX} {B : CB} {p : Nat} {co : CO} {As R : List Assn} (h0 : co.out ≠ 0) (e : VI) (h : ∀ h, Sat As h → Sat (opC p e.1 e.2.1 co.out co.val (bxK X (tl e.2.2.1 e.2.2.2.1 co.due) (tl e.2.2.2.2.1 e.2.2.2.2.2.1 co.cut) (tl e.2.2.2.2.2.2.1 e.2.2.2.2.2.2.2 co.ref)) :: tlA e.2.2.1 e.2.2.2.1 co.due :: tlA e.2.2.2.2.1 e.2.2.2.2.2.1 co.cut :: tlA e.2.2.2.2.2.2.1 e.2.2.2.2.2.2.2 co.ref :: R) h) : ∀ h, Sat As h → Sat (opK X B p co :: R) h := by
  unfold opK; rw [if_neg h0]; exact ex_close e trivial h
theorem tl_nil {R : List Assn} : ∀ h, Sat R h → Sat (tlA none 0 [] :: R) h := own_nil0
theorem tl_nil2 {R : List Assn} : ∀ h, Sat R h → Sat (tlA none 0 [] :: tlA none 0 [] :: R) h := fun h s => own_nil0 h (own_nil0 h s)
theorem tl_nil3 {R : List Assn} : ∀ h, Sat R h → Sat (tlA none 0 [] :: tlA none 0 [] :: tlA none 0 [] :: R) h := fun h s => own_nil0 h (tl_nil2 h s)
theorem u64_quo {v : Int} (h0 : 0 ≤ v) (h1 : v ≤ 18446744073709551615) : IntKind.u64.wrap (v.tdiv 4096) = v / 4096 := quo_wr (n := 4096) h0 h1 (by decide)

set_option maxRecDepth 8000 in
set_option maxHeartbeats 1000000 in
theorem tick_spec (X : KX) (B : CB) (p : Nat) (x y : Value) (w : Wh) (hn : w.now < 3000000000000000000) (a1 : Option Addr) (k1 : Nat) (a2 : Option Addr) (k2 : Nat) (cut ref : List Int) : FnS Tryz.prog 65 [ptr p 0] [opC p x y 0 0 (bxK X nilS (tl a1 k1 cut) (tl a2 k2 ref)), tlA a1 k1 cut, tlA a2 k2 ref, clkA X B, wheel X.wp w] (fun u Bs => u = .tuple #[] ∧ Bs = [phK X B p cut ref (.tick ((w.now + 1 : Nat) : Int)), clkA X B, wheel X.wp w]) := by
 refine fn_body Tryz.func65 rfl rfl rfl ?_
 intro W0 R
 simp only [List.zipIdx_cons, List.zipIdx_nil, List.map_cons, List.map_nil, Nat.zero_add, Nat.reduceAdd, List.cons_append, List.nil_append]
 refine g_seq ?_
 refine g_region ?_
 refine gl_n rfl (o_box rfl rfl) ?_
 rintro _ _ ⟨b1, rfl, rfl⟩
 refine gl_nil ?_
 refine ge_then ?_
 refine g_draw [24, 27, 30] [24, 27] [(0, .stab), (1, .stab), (2, .stab), (3, .stab), (4, .stab), (5, .stab), (6, .stab), (7, .stab), (8, .stab), (9, .stab), (10, .stab), (11, .stab), (12, .stab), (13, .stab), (14, .stab), (15, .stab), (16, .stab), (17, .loc), (18, .loc), (19, .loc), (20, .loc), (21, .loc), (22, .loc), (23, .loc), (29, .stab), (24, .eff), (25, .loc), (26, .loc), (27, .eff), (28, .loc), (30, .eff)] [cel b1 29 [ptr p 0], opC p x y 0 0 (bxK X nilS (tl a1 k1 cut) (tl a2 k2 ref)), clkA X B] mixed (by kernel_rfl) ?_
 first | refine go_vs rfl .none rfl (o_load rfl rfl) (To.sat (by repeat (first | exact .nil | exact .done .refl | (apply To.cons; · (repeat (first | exact .head | apply Sel.tail))) | exact .done (by repeat (first | exact .refl | apply Drop.skip))))) ?_ | refine go_vs rfl .none rfl (o_loadS rfl rfl) (To.sat (by repeat (first | exact .nil | exact .done .refl | (apply To.cons; · (repeat (first | exact .head | apply Sel.tail))) | exact .done (by repeat (first | exact .refl | apply Drop.skip))))) ?_ | refine go_vs rfl .none rfl (o_loadC rfl) (To.sat (by repeat (first | exact .nil | exact .done .refl | (apply To.cons; · (repeat (first | exact .head | apply Sel.tail))) | exact .done (by repeat (first | exact .refl | apply Drop.skip))))) ?_
 refine go_vs rfl .none rfl (o_nil rfl) (To.sat (by repeat (first | exact .nil | exact .done .refl | (apply To.cons; · (repeat (first | exact .head | apply Sel.tail))) | exact .done (by repeat (first | exact .refl | apply Drop.skip))))) ?_
 first | refine go_vs rfl .none rfl (o_fldS rfl) (To.sat (by repeat (first | exact .nil | exact .done .refl | (apply To.cons; · (repeat (first | exact .head | apply Sel.tail))) | exact .done (by repeat (first | exact .refl | apply Drop.skip))))) ?_ | refine go_vs rfl .none rfl (o_fld rfl) (To.sat (by repeat (first | exact .nil | exact .done .refl | (apply To.cons; · (repeat (first | exact .head | apply Sel.tail))) | exact .done (by repeat (first | exact .refl | apply Drop.skip))))) ?_
 first | refine go_vs rfl .none rfl (o_load rfl rfl) (To.sat (by repeat (first | exact .nil | exact .done .refl | (apply To.cons; · (repeat (first | exact .head | apply Sel.tail))) | exact .done (by repeat (first | exact .refl | apply Drop.skip))))) ?_ | refine go_vs rfl .none rfl (o_loadS rfl rfl) (To.sat (by repeat (first | exact .nil | exact .done .refl | (apply To.cons; · (repeat (first | exact .head | apply Sel.tail))) | exact .done (by repeat (first | exact .refl | apply Drop.skip))))) ?_ | refine go_vs rfl .none rfl (o_loadC rfl) (To.sat (by repeat (first | exact .nil | exact .done .refl | (apply To.cons; · (repeat (first | exact .head | apply Sel.tail))) | exact .done (by repeat (first | exact .refl | apply Drop.skip))))) ?_
 refine go_vs rfl .none rfl (o_nil rfl) (To.sat (by repeat (first | exact .nil | exact .done .refl | (apply To.cons; · (repeat (first | exact .head | apply Sel.tail))) | exact .done (by repeat (first | exact .refl | apply Drop.skip))))) ?_
 first | refine go_vs rfl .none rfl (o_fldS rfl) (To.sat (by repeat (first | exact .nil | exact .done .refl | (apply To.cons; · (repeat (first | exact .head | apply Sel.tail))) | exact .done (by repeat (first | exact .refl | apply Drop.skip))))) ?_ | refine go_vs rfl .none rfl (o_fld rfl) (To.sat (by repeat (first | exact .nil | exact .done .refl | (apply To.cons; · (repeat (first | exact .head | apply Sel.tail))) | exact .done (by repeat (first | exact .refl | apply Drop.skip))))) ?_
 first | refine go_vs rfl .none rfl (o_load rfl rfl) (To.sat (by repeat (first | exact .nil | exact .done .refl | (apply To.cons; · (repeat (first | exact .head | apply Sel.tail))) | exact .done (by repeat (first | exact .refl | apply Drop.skip))))) ?_ | refine go_vs rfl .none rfl (o_loadS rfl rfl) (To.sat (by repeat (first | exact .nil | exact .done .refl | (apply To.cons; · (repeat (first | exact .head | apply Sel.tail))) | exact .done (by repeat (first | exact .refl | apply Drop.skip))))) ?_ | refine go_vs rfl .none rfl (o_loadC rfl) (To.sat (by repeat (first | exact .nil | exact .done .refl | (apply To.cons; · (repeat (first | exact .head | apply Sel.tail))) | exact .done (by repeat (first | exact .refl | apply Drop.skip))))) ?_
 refine go_vs rfl .none rfl (o_nil rfl) (To.sat (by repeat (first | exact .nil | exact .done .refl | (apply To.cons; · (repeat (first | exact .head | apply Sel.tail))) | exact .done (by repeat (first | exact .refl | apply Drop.skip))))) ?_
 first | refine go_vs rfl .none rfl (o_fldS rfl) (To.sat (by repeat (first | exact .nil | exact .done .refl | (apply To.cons; · (repeat (first | exact .head | apply Sel.tail))) | exact .done (by repeat (first | exact .refl | apply Drop.skip))))) ?_ | refine go_vs rfl .none rfl (o_fld rfl) (To.sat (by repeat (first | exact .nil | exact .done .refl | (apply To.cons; · (repeat (first | exact .head | apply Sel.tail))) | exact .done (by repeat (first | exact .refl | apply Drop.skip))))) ?_
 first | refine go_vs rfl .none rfl (o_load rfl rfl) (To.sat (by repeat (first | exact .nil | exact .done .refl | (apply To.cons; · (repeat (first | exact .head | apply Sel.tail))) | exact .done (by repeat (first | exact .refl | apply Drop.skip))))) ?_ | refine go_vs rfl .none rfl (o_loadS rfl rfl) (To.sat (by repeat (first | exact .nil | exact .done .refl | (apply To.cons; · (repeat (first | exact .head | apply Sel.tail))) | exact .done (by repeat (first | exact .refl | apply Drop.skip))))) ?_ | refine go_vs rfl .none rfl (o_loadC rfl) (To.sat (by repeat (first | exact .nil | exact .done .refl | (apply To.cons; · (repeat (first | exact .head | apply Sel.tail))) | exact .done (by repeat (first | exact .refl | apply Drop.skip))))) ?_
 first | refine go_vs rfl .none rfl (o_load rfl rfl) (To.sat (by repeat (first | exact .nil | exact .done .refl | (apply To.cons; · (repeat (first | exact .head | apply Sel.tail))) | exact .done (by repeat (first | exact .refl | apply Drop.skip))))) ?_ | refine go_vs rfl .none rfl (o_loadS rfl rfl) (To.sat (by repeat (first | exact .nil | exact .done .refl | (apply To.cons; · (repeat (first | exact .head | apply Sel.tail))) | exact .done (by repeat (first | exact .refl | apply Drop.skip))))) ?_ | refine go_vs rfl .none rfl (o_loadC rfl) (To.sat (by repeat (first | exact .nil | exact .done .refl | (apply To.cons; · (repeat (first | exact .head | apply Sel.tail))) | exact .done (by repeat (first | exact .refl | apply Drop.skip))))) ?_
 refine go_vs rfl .none rfl (o_nil rfl) (To.sat (by repeat (first | exact .nil | exact .done .refl | (apply To.cons; · (repeat (first | exact .head | apply Sel.tail))) | exact .done (by repeat (first | exact .refl | apply Drop.skip))))) ?_
 first | refine go_vs rfl .none rfl (o_fldS rfl) (To.sat (by repeat (first | exact .nil | exact .done .refl | (apply To.cons; · (repeat (first | exact .head | apply Sel.tail))) | exact .done (by repeat (first | exact .refl | apply Drop.skip))))) ?_ | refine go_vs rfl .none rfl (o_fld rfl) (To.sat (by repeat (first | exact .nil | exact .done .refl | (apply To.cons; · (repeat (first | exact .head | apply Sel.tail))) | exact .done (by repeat (first | exact .refl | apply Drop.skip))))) ?_
 first | refine go_vs rfl .none rfl (o_load rfl rfl) (To.sat (by repeat (first | exact .nil | exact .done .refl | (apply To.cons; · (repeat (first | exact .head | apply Sel.tail))) | exact .done (by repeat (first | exact .refl | apply Drop.skip))))) ?_ | refine go_vs rfl .none rfl (o_loadS rfl rfl) (To.sat (by repeat (first | exact .nil | exact .done .refl | (apply To.cons; · (repeat (first | exact .head | apply Sel.tail))) | exact .done (by repeat (first | exact .refl | apply Drop.skip))))) ?_ | refine go_vs rfl .none rfl (o_loadC rfl) (To.sat (by repeat (first | exact .nil | exact .done .refl | (apply To.cons; · (repeat (first | exact .head | apply Sel.tail))) | exact .done (by repeat (first | exact .refl | apply Drop.skip))))) ?_
 refine go_vs rfl .none rfl (o_nil rfl) (To.sat (by repeat (first | exact .nil | exact .done .refl | (apply To.cons; · (repeat (first | exact .head | apply Sel.tail))) | exact .done (by repeat (first | exact .refl | apply Drop.skip))))) ?_
 first | refine go_vs rfl .none rfl (o_fldS rfl) (To.sat (by repeat (first | exact .nil | exact .done .refl | (apply To.cons; · (repeat (first | exact .head | apply Sel.tail))) | exact .done (by repeat (first | exact .refl | apply Drop.skip))))) ?_ | refine go_vs rfl .none rfl (o_fld rfl) (To.sat (by repeat (first | exact .nil | exact .done .refl | (apply To.cons; · (repeat (first | exact .head | apply Sel.tail))) | exact .done (by repeat (first | exact .refl | apply Drop.skip))))) ?_
 first | refine go_vs rfl .none rfl (o_load rfl rfl) (To.sat (by repeat (first | exact .nil | exact .done .refl | (apply To.cons; · (repeat (first | exact .head | apply Sel.tail))) | exact .done (by repeat (first | exact .refl | apply Drop.skip))))) ?_ | refine go_vs rfl .none rfl (o_loadS rfl rfl) (To.sat (by repeat (first | exact .nil | exact .done .refl | (apply To.cons; · (repeat (first | exact .head | apply Sel.tail))) | exact .done (by repeat (first | exact .refl | apply Drop.skip))))) ?_ | refine go_vs rfl .none rfl (o_loadC rfl) (To.sat (by repeat (first | exact .nil | exact .done .refl | (apply To.cons; · (repeat (first | exact .head | apply Sel.tail))) | exact .done (by repeat (first | exact .refl | apply Drop.skip))))) ?_
 first | refine go_v rfl .none rfl (o_load rfl rfl) ?_ | refine go_v rfl .none rfl (o_loadS rfl rfl) ?_ | refine go_v rfl .none rfl (o_loadC rfl) ?_
 refine go_v rfl .none rfl (o_nil rfl) ?_
 first | refine go_v rfl .none rfl (o_fldS rfl) ?_ | refine go_v rfl .none rfl (o_fld rfl) ?_
 first | refine go_v rfl .none rfl (o_load rfl rfl) ?_ | refine go_v rfl .none rfl (o_loadS rfl rfl) ?_ | refine go_v rfl .none rfl (o_loadC rfl) ?_
 refine go_v rfl .none rfl (o_nil rfl) ?_
 first | refine go_v rfl .none rfl (o_fldS rfl) ?_ | refine go_v rfl .none rfl (o_fld rfl) ?_
 first | refine go_v rfl .none rfl (o_load rfl rfl) ?_ | refine go_v rfl .none rfl (o_loadS rfl rfl) ?_ | refine go_v rfl .none rfl (o_loadC rfl) ?_
 refine go_vs rfl .none rfl (o_func rfl rfl) (To.sat (by repeat (first | exact .nil | exact .done .refl | (apply To.cons; · (repeat (first | exact .head | apply Sel.tail))) | exact .done (by repeat (first | exact .refl | apply Drop.skip))))) ?_
 refine go_c rfl .none rfl (o_call rfl (Now_spec X.wp w) (by repeat (first | exact .nil | (apply Part.cons; · (repeat (first | exact .head | apply Sel.tail)))))) ?_
 rintro _ R ⟨_, ⟨rfl, rfl⟩, rfl⟩
 try simp only [List.cons_append, List.nil_append]
 refine ⟨(fun _ => (To.sat (by repeat (first | exact .nil | exact .done .refl | (apply To.cons; · (repeat (first | exact .head | apply Sel.tail))) | exact .done (by repeat (first | exact .refl | apply Drop.skip)))))), ?_⟩
 refine go_v rfl .none rfl (o_addR ((w.now + 1 : Nat) : Int) (by rw [wr_i64 (by omega)]; omega) rfl rfl) ?_
 refine go_v rfl .none rfl (o_convR ((w.now + 1 : Nat) : Int) (wr_u64 (by omega)) rfl) ?_
 refine go_c rfl .none rfl (o_call rfl (tStore_new X.m B.b ((w.now + 1 : Nat) : Int)) (by repeat (first | exact .nil | (apply Part.cons; · (repeat (first | exact .head | apply Sel.tail)))))) ?_
 rintro _ R ⟨_, ⟨τ, rfl, rfl⟩, rfl⟩
 try simp only [List.cons_append, List.nil_append]
 refine ⟨(fun _ => (To.sat (by repeat (first | exact .nil | exact .done .refl | (apply To.cons; · (repeat (first | exact .head | apply Sel.tail))) | exact .done (by repeat (first | exact .refl | apply Drop.skip)))))), ?_⟩
 refine go_v rfl .none rfl (o_iface Tryz.underlying101 rfl rfl) ?_
 refine go_c rfl .none rfl (o_call rfl (Do_store p τ (bxK X nilS (tl a1 k1 cut) (tl a2 k2 ref)) X.m B.b ((w.now + 1 : Nat) : Int) x y _ rfl 0 0) (by repeat (first | exact .nil | (apply Part.cons; · (repeat (first | exact .head | apply Sel.tail)))))) ?_
 rintro _ R ⟨_, ⟨rfl, rfl⟩, rfl⟩
 try simp only [List.cons_append, List.nil_append]
 refine ⟨(fun hG => absurd hG (by decide)), ?_⟩
 refine go_nil ?_
 refine ret0 (.inr rfl) rfl [phK X B p cut ref (.tick ((w.now + 1 : Nat) : Int)), clkA X B, wheel X.wp w] (⟨rfl, rfl⟩) (ex_close (τ, b1, 0, 0, a1, k1, a2, k2) trivial (To.sat (by repeat (first | exact .nil | exact .done .refl | (apply To.cons; · (repeat (first | exact .head | apply Sel.tail))) | exact .done (by repeat (first | exact .refl | apply Drop.skip))))))

set_option maxRecDepth 8000 in
set_option maxHeartbeats 1000000 in
theorem take_spec (X : KX) (B : CB) (p : Nat) (x y : Value) (w : Wh) (hn : w.now < 3000000000000000000) (left : Nat) (hl : left ≤ 64) (a1 : Option Addr) (k1 : Nat) (a2 : Option Addr) (k2 : Nat) (cut ref : List Int) : FnS Tryz.prog 41 [ptr p 0, I64 left] [opC p x y 0 0 (bxK X nilS (tl a1 k1 cut) (tl a2 k2 ref)), tlA a1 k1 cut, tlA a2 k2 ref, clkA X B, wheel X.wp w] (fun u Bs => u = .tuple #[] ∧ Bs = [phK X B p cut ref (nextT left w), clkA X B, wheel X.wp w]) := by
 refine fn_body Tryz.func41 rfl rfl rfl ?_
 intro W0 R
 simp only [List.zipIdx_cons, List.zipIdx_nil, List.map_cons, List.map_nil, Nat.zero_add, Nat.reduceAdd, List.cons_append, List.nil_append]
 refine g_seq ?_
 refine g_region ?_
 refine gl_n rfl (o_box rfl rfl) ?_
 rintro _ _ ⟨b2, rfl, rfl⟩
 refine gl_n rfl (o_box rfl rfl) ?_
 rintro _ _ ⟨b3, rfl, rfl⟩
 refine gl_nil ?_
 refine ge_then ?_
 refine g_seq ?_
 refine g_seq ?_
 refine g_region ?_
 first | refine gl_v rfl (o_load rfl rfl) ?_ | refine gl_v rfl (o_loadS rfl rfl) ?_ | refine gl_v rfl (o_loadC rfl) ?_
 refine gl_v rfl (o_eql rfl rfl) ?_
 refine gl_nil ?_
 refine ge_then ?_
 refine g_cond rfl (fun hc1 => ?_) (fun hc1 => ?_)
 ·
  first | replace hc1 := of_decide_eq_true hc1 | replace hc1 := lt_f hc1 | replace hc1 := le_f hc1 | replace hc1 := dec_f hc1 | replace hc1 := nlt_t hc1 | replace hc1 := nle_t hc1 | replace hc1 := ndec_t hc1 | replace hc1 := ndec_f hc1 | replace hc1 := nn_t hc1 | replace hc1 := nn_f hc1 | skip
  obtain rfl : left = 0 := by omega
  refine g_seq ?_
  refine g_region ?_
  first | refine gl_v rfl (o_load rfl rfl) ?_ | refine gl_v rfl (o_loadS rfl rfl) ?_ | refine gl_v rfl (o_loadC rfl) ?_
  refine gl_c rfl (o_call rfl (tick_spec X B p x y w hn a1 k1 a2 k2 cut ref) (by repeat (first | exact .nil | (apply Part.cons; · (repeat (first | exact .head | apply Sel.tail)))))) ?_
  rintro _ R ⟨_, ⟨rfl, rfl⟩, rfl⟩
  try simp only [List.cons_append, List.nil_append]
  refine gl_nil ?_
  refine ge_then ?_
  refine g_ret ?_
  refine ge_then_ret ?_
  refine ret0 (.inl rfl) rfl [phK X B p cut ref (.tick ((w.now + 1 : Nat) : Int)), clkA X B, wheel X.wp w] (⟨rfl, rfl⟩) (To.sat (by repeat (first | exact .nil | exact .done .refl | (apply To.cons; · (repeat (first | exact .head | apply Sel.tail))) | exact .done (by repeat (first | exact .refl | apply Drop.skip)))))
 ·
  first | replace hc1 := of_decide_eq_true hc1 | replace hc1 := lt_f hc1 | replace hc1 := le_f hc1 | replace hc1 := dec_f hc1 | replace hc1 := nlt_t hc1 | replace hc1 := nle_t hc1 | replace hc1 := ndec_t hc1 | replace hc1 := ndec_f hc1 | replace hc1 := nn_t hc1 | replace hc1 := nn_f hc1 | skip
  have hl0 : ¬ left = 0 := by omega
  refine g_skip ?_
  refine ge_then ?_
  refine g_seq ?_
  refine g_region ?_
  first | refine gl_v rfl (o_load rfl rfl) ?_ | refine gl_v rfl (o_loadS rfl rfl) ?_ | refine gl_v rfl (o_loadC rfl) ?_
  refine gl_v rfl (o_nil rfl) ?_
  first | refine gl_v rfl (o_fldS rfl) ?_ | refine gl_v rfl (o_fld rfl) ?_
  first | refine gl_v rfl (o_load rfl rfl) ?_ | refine gl_v rfl (o_loadS rfl rfl) ?_ | refine gl_v rfl (o_loadC rfl) ?_
  refine gl_v rfl (o_nil rfl) ?_
  first | refine gl_v rfl (o_fldS rfl) ?_ | refine gl_v rfl (o_fld rfl) ?_
  first | refine gl_v rfl (o_load rfl rfl) ?_ | refine gl_v rfl (o_loadS rfl rfl) ?_ | refine gl_v rfl (o_loadC rfl) ?_
  refine gl_c rfl (o_call rfl (Take_spec X.r) (by repeat (first | exact .nil | (apply Part.cons; · (repeat (first | exact .head | apply Sel.tail)))))) ?_
  rintro _ R ⟨_, ⟨q, rfl, rfl⟩, rfl⟩
  try simp only [List.cons_append, List.nil_append]
  refine gl_n rfl (o_alloc) ?_
  rintro _ _ ⟨b4, rfl, rfl⟩
  first | refine gl_u (o_store rfl rfl rfl rfl) ?_ | refine gl_u (o_storeS rfl rfl rfl (by first | assumption | omega | simp)) ?_
  refine gl_nil ?_
  refine ge_then ?_
  refine g_draw [6] [] [(0, .loc), (1, .loc), (2, .loc), (3, .loc), (4, .loc), (5, .loc), (6, .eff)] [cel b4 116 [ptr q 0], cel b2 29 [ptr p 0]] mixed (by kernel_rfl) ?_
  first | refine go_v rfl .none rfl (o_load rfl rfl) ?_ | refine go_v rfl .none rfl (o_loadS rfl rfl) ?_ | refine go_v rfl .none rfl (o_loadC rfl) ?_
  refine go_v rfl .none rfl (o_nil rfl) ?_
  first | refine go_v rfl .none rfl (o_fldS rfl) ?_ | refine go_v rfl .none rfl (o_fld rfl) ?_
  first | refine go_v rfl .none rfl (o_load rfl rfl) ?_ | refine go_v rfl .none rfl (o_loadS rfl rfl) ?_ | refine go_v rfl .none rfl (o_loadC rfl) ?_
  refine go_v rfl .none rfl (o_iface Tryz.underlying116 rfl rfl) ?_
  refine go_v rfl .none rfl (o_func rfl rfl) ?_
  refine go_c rfl .none rfl (o_call rfl (Do_ring p q X.r (bxK X nilS (tl a1 k1 cut) (tl a2 k2 ref)) x y _ rfl 0 0 (ini 5 0) rfl) (by repeat (first | exact .nil | (apply Part.cons; · (repeat (first | exact .head | apply Sel.tail)))))) ?_
  rintro _ R ⟨_, ⟨rfl, rfl⟩, rfl⟩
  try simp only [List.cons_append, List.nil_append]
  refine ⟨(fun hG => absurd hG (by decide)), ?_⟩
  refine go_nil ?_
  refine ret0 (.inr rfl) rfl [phK X B p cut ref (nextT left w), clkA X B, wheel X.wp w] (⟨rfl, rfl⟩) (by unfold nextT; rw [if_neg hl0]; exact ex_close (q, b4, b2, b3, a1, k1, a2, k2) trivial (To.sat (by repeat (first | exact .nil | exact .done .refl | (apply To.cons; · (repeat (first | exact .head | apply Sel.tail))) | exact .done (by repeat (first | exact .refl | apply Drop.skip))))))

set_option maxRecDepth 8000 in
set_option maxHeartbeats 1000000 in
theorem asked_ref (X : KX) (B : CB) (p : Nat) (x y : Value) (w : Wh) (hw : WI w) (id d : Int) (hd : 0 ≤ d ∧ d ≤ 4095) (a1 : Option Addr) (k1 : Nat) (a2 : Option Addr) (k2 : Nat) (cut ref : List Int) (hcu : cut.length ≤ 1000) (hre : ref.length ≤ 1000) (h : d ≠ 0) (he : addE w id d ≠ 0) : FnS Tryz.prog 68 [ptr p 0, U64 id, I64 d] [opC p x y 0 0 (bxK X nilS (tl a1 k1 cut) (tl a2 k2 ref)), tlA a1 k1 cut, tlA a2 k2 ref, clkA X B, wheel X.wp w] (fun u Bs => ∃ a1' k1' a2' k2', u = .tuple #[] ∧ Bs = [opC p x y 0 0 (bxK X nilS (tl a1' k1' cut) (tl a2' k2' (ref ++ [id]))), tlA a1' k1' cut, tlA a2' k2' (ref ++ [id]), clkA X B, wheel X.wp (addR w id d)]) := by
 refine fn_body Tryz.func68 rfl rfl rfl ?_
 intro W0 R
 simp only [List.zipIdx_cons, List.zipIdx_nil, List.map_cons, List.map_nil, Nat.zero_add, Nat.reduceAdd, List.cons_append, List.nil_append]
 refine g_block ?_
 refine g_seq ?_
 refine g_region ?_
 refine gl_v rfl (o_move rfl) ?_
 refine gl_v rfl (o_is (c := true) (by exact decide_eq_true (by omega)) (o_gtr rfl rfl)) ?_
 refine gl_v rfl (o_move rfl) ?_
 refine gl_gT rfl rfl rfl ?_
 refine gl_v rfl (o_move rfl) ?_
 refine gl_gT rfl rfl rfl ?_
 refine gl_v rfl (o_nil rfl) ?_
 refine gl_gT rfl rfl rfl ?_
 first | refine gl_v rfl (o_fldS rfl) ?_ | refine gl_v rfl (o_fld rfl) ?_
 refine gl_gT rfl rfl rfl ?_
 first | refine gl_v rfl (o_load rfl rfl) ?_ | refine gl_v rfl (o_loadS rfl rfl) ?_ | refine gl_v rfl (o_loadC rfl) ?_
 refine gl_gT rfl rfl rfl ?_
 refine gl_v rfl (o_nil rfl) ?_
 refine gl_gT rfl rfl rfl ?_
 first | refine gl_v rfl (o_fldS rfl) ?_ | refine gl_v rfl (o_fld rfl) ?_
 refine gl_gT rfl rfl rfl ?_
 first | refine gl_v rfl (o_load rfl rfl) ?_ | refine gl_v rfl (o_loadS rfl rfl) ?_ | refine gl_v rfl (o_loadC rfl) ?_
 refine gl_gT rfl rfl rfl ?_
 refine gl_v rfl (o_move rfl) ?_
 refine gl_gT rfl rfl rfl ?_
 refine gl_v rfl (o_move rfl) ?_
 refine gl_gT rfl rfl rfl ?_
 refine gl_c rfl (o_call rfl (Add_spec X.wp w id d hw.ok hw.now hw.seq) (by repeat (first | exact .nil | (apply Part.cons; · (repeat (first | exact .head | apply Sel.tail)))))) ?_
 rintro _ R ⟨_, ⟨rfl, rfl⟩, rfl⟩
 try simp only [List.cons_append, List.nil_append]
 refine gl_gT rfl rfl rfl ?_
 refine gl_v rfl (o_is (c := true) (by simpa using he) (o_neq rfl rfl)) ?_
 refine gl_v rfl (o_pickT rfl rfl rfl) ?_
 refine gl_v rfl (o_assign rfl) ?_
 refine gl_nil ?_
 refine ge_then ?_
 refine g_cond_true rfl ?_
 refine g_region ?_
 refine gl_v rfl (o_move rfl) ?_
 refine gl_v rfl (o_move rfl) ?_
 refine gl_v rfl (o_nil rfl) ?_
 first | refine gl_v rfl (o_fldS rfl) ?_ | refine gl_v rfl (o_fld rfl) ?_
 first | refine gl_v rfl (o_load rfl rfl) ?_ | refine gl_v rfl (o_loadS rfl rfl) ?_ | refine gl_v rfl (o_loadC rfl) ?_
 refine gl_v rfl (o_move rfl) ?_
 first | refine gl_n rfl (o_buildS1 rfl rfl rfl) ?_ | refine gl_n rfl (o_buildS1A rfl rfl rfl rfl) ?_ | refine gl_n rfl (o_buildS rfl rfl rfl rfl) ?_
 rintro _ _ ⟨b28, rfl, rfl⟩
 refine gl_n rfl (o_append rfl rfl (by repeat (first | exact .nil | (apply Part.cons; · (repeat (first | exact .head | apply Sel.tail))))) rfl rfl rfl (by omega) (by unfold maxLen; omega)) ?_
 rintro _ _ ⟨a29, c29, rfl, rfl⟩
 rw [show ref.map U64 ++ [U64 id] = (ref ++ [id]).map U64 by simp, show ref.length + 1 = (ref ++ [id]).length by simp]
 refine gl_v rfl (o_nil rfl) ?_
 first | refine gl_v rfl (o_fldS rfl) ?_ | refine gl_v rfl (o_fld rfl) ?_
 first | refine gl_u (o_store rfl rfl rfl rfl) ?_ | refine gl_u (o_storeS rfl rfl rfl (by first | assumption | omega | simp)) ?_
 refine gl_nil ?_
 refine ge_block ?_
 refine ret0 (.inr rfl) rfl _ (⟨_, _, _, _, rfl, rfl⟩) (To.sat (by repeat (first | exact .nil | exact .done .refl | (apply To.cons; · (repeat (first | exact .head | apply Sel.tail))) | exact .done (by repeat (first | exact .refl | apply Drop.skip)))))

set_option maxRecDepth 8000 in
set_option maxHeartbeats 1000000 in
theorem asked_add (X : KX) (B : CB) (p : Nat) (x y : Value) (w : Wh) (hw : WI w) (id d : Int) (hd : 0 ≤ d ∧ d ≤ 4095) (a1 : Option Addr) (k1 : Nat) (a2 : Option Addr) (k2 : Nat) (cut ref : List Int) (hcu : cut.length ≤ 1000) (hre : ref.length ≤ 1000) (h : d ≠ 0) (he : addE w id d = 0) : FnS Tryz.prog 68 [ptr p 0, U64 id, I64 d] [opC p x y 0 0 (bxK X nilS (tl a1 k1 cut) (tl a2 k2 ref)), tlA a1 k1 cut, tlA a2 k2 ref, clkA X B, wheel X.wp w] (fun u Bs => ∃ a1' k1' a2' k2', u = .tuple #[] ∧ Bs = [opC p x y 0 0 (bxK X nilS (tl a1' k1' cut) (tl a2' k2' ref)), tlA a1' k1' cut, tlA a2' k2' ref, clkA X B, wheel X.wp (addR w id d)]) := by
 refine fn_body Tryz.func68 rfl rfl rfl ?_
 intro W0 R
 simp only [List.zipIdx_cons, List.zipIdx_nil, List.map_cons, List.map_nil, Nat.zero_add, Nat.reduceAdd, List.cons_append, List.nil_append]
 refine g_block ?_
 refine g_seq ?_
 refine g_region ?_
 refine gl_v rfl (o_move rfl) ?_
 refine gl_v rfl (o_is (c := true) (by exact decide_eq_true (by omega)) (o_gtr rfl rfl)) ?_
 refine gl_v rfl (o_move rfl) ?_
 refine gl_gT rfl rfl rfl ?_
 refine gl_v rfl (o_move rfl) ?_
 refine gl_gT rfl rfl rfl ?_
 refine gl_v rfl (o_nil rfl) ?_
 refine gl_gT rfl rfl rfl ?_
 first | refine gl_v rfl (o_fldS rfl) ?_ | refine gl_v rfl (o_fld rfl) ?_
 refine gl_gT rfl rfl rfl ?_
 first | refine gl_v rfl (o_load rfl rfl) ?_ | refine gl_v rfl (o_loadS rfl rfl) ?_ | refine gl_v rfl (o_loadC rfl) ?_
 refine gl_gT rfl rfl rfl ?_
 refine gl_v rfl (o_nil rfl) ?_
 refine gl_gT rfl rfl rfl ?_
 first | refine gl_v rfl (o_fldS rfl) ?_ | refine gl_v rfl (o_fld rfl) ?_
 refine gl_gT rfl rfl rfl ?_
 first | refine gl_v rfl (o_load rfl rfl) ?_ | refine gl_v rfl (o_loadS rfl rfl) ?_ | refine gl_v rfl (o_loadC rfl) ?_
 refine gl_gT rfl rfl rfl ?_
 refine gl_v rfl (o_move rfl) ?_
 refine gl_gT rfl rfl rfl ?_
 refine gl_v rfl (o_move rfl) ?_
 refine gl_gT rfl rfl rfl ?_
 refine gl_c rfl (o_call rfl (Add_spec X.wp w id d hw.ok hw.now hw.seq) (by repeat (first | exact .nil | (apply Part.cons; · (repeat (first | exact .head | apply Sel.tail)))))) ?_
 rintro _ R ⟨_, ⟨rfl, rfl⟩, rfl⟩
 try simp only [List.cons_append, List.nil_append]
 refine gl_gT rfl rfl rfl ?_
 refine gl_v rfl (o_is (c := false) (by simpa using he) (o_neq rfl rfl)) ?_
 refine gl_v rfl (o_pickT rfl rfl rfl) ?_
 refine gl_v rfl (o_assign rfl) ?_
 refine gl_nil ?_
 refine ge_then ?_
 refine g_cond_false rfl ?_
 refine g_seq ?_
 refine g_region ?_
 refine gl_v rfl (o_move rfl) ?_
 refine gl_v rfl (o_is (c := false) (by exact decide_eq_false (by omega)) (o_eql rfl rfl)) ?_
 refine gl_v rfl (o_move rfl) ?_
 refine gl_gF rfl rfl rfl rfl ?_
 refine gl_gF rfl rfl rfl rfl ?_
 refine gl_gF rfl rfl rfl rfl ?_
 refine gl_gF rfl rfl rfl rfl ?_
 refine gl_gF rfl rfl rfl rfl ?_
 refine gl_gF rfl rfl rfl rfl ?_
 refine gl_gF rfl rfl rfl rfl ?_
 refine gl_gF rfl rfl rfl rfl ?_
 refine gl_gF rfl rfl rfl rfl ?_
 refine gl_v rfl (o_pickF rfl rfl rfl) ?_
 refine gl_v rfl (o_assign rfl) ?_
 refine gl_nil ?_
 refine ge_then ?_
 refine g_cond_false rfl ?_
 refine g_skip ?_
 refine ge_block ?_
 refine ret0 (.inr rfl) rfl _ (⟨_, _, _, _, rfl, rfl⟩) (To.sat (by repeat (first | exact .nil | exact .done .refl | (apply To.cons; · (repeat (first | exact .head | apply Sel.tail))) | exact .done (by repeat (first | exact .refl | apply Drop.skip)))))

set_option maxRecDepth 8000 in
set_option maxHeartbeats 1000000 in
theorem asked_cut (X : KX) (B : CB) (p : Nat) (x y : Value) (w : Wh) (hw : WI w) (id d : Int) (hd : 0 ≤ d ∧ d ≤ 4095) (a1 : Option Addr) (k1 : Nat) (a2 : Option Addr) (k2 : Nat) (cut ref : List Int) (hcu : cut.length ≤ 1000) (hre : ref.length ≤ 1000) (h : d = 0) (he : (w.get id).isSome = true) : FnS Tryz.prog 68 [ptr p 0, U64 id, I64 d] [opC p x y 0 0 (bxK X nilS (tl a1 k1 cut) (tl a2 k2 ref)), tlA a1 k1 cut, tlA a2 k2 ref, clkA X B, wheel X.wp w] (fun u Bs => ∃ a1' k1' a2' k2', u = .tuple #[] ∧ Bs = [opC p x y 0 0 (bxK X nilS (tl a1' k1' (cut ++ [id])) (tl a2' k2' ref)), tlA a1' k1' (cut ++ [id]), tlA a2' k2' ref, clkA X B, wheel X.wp (cutR w id)]) := by
 refine fn_body Tryz.func68 rfl rfl rfl ?_
 intro W0 R
 simp only [List.zipIdx_cons, List.zipIdx_nil, List.map_cons, List.map_nil, Nat.zero_add, Nat.reduceAdd, List.cons_append, List.nil_append]
 refine g_block ?_
 refine g_seq ?_
 refine g_region ?_
 refine gl_v rfl (o_move rfl) ?_
 refine gl_v rfl (o_is (c := false) (by exact decide_eq_false (by omega)) (o_gtr rfl rfl)) ?_
 refine gl_v rfl (o_move rfl) ?_
 refine gl_gF rfl rfl rfl rfl ?_
 refine gl_gF rfl rfl rfl rfl ?_
 refine gl_gF rfl rfl rfl rfl ?_
 refine gl_gF rfl rfl rfl rfl ?_
 refine gl_gF rfl rfl rfl rfl ?_
 refine gl_gF rfl rfl rfl rfl ?_
 refine gl_gF rfl rfl rfl rfl ?_
 refine gl_gF rfl rfl rfl rfl ?_
 refine gl_gF rfl rfl rfl rfl ?_
 refine gl_gF rfl rfl rfl rfl ?_
 refine gl_gF rfl rfl rfl rfl ?_
 refine gl_v rfl (o_pickF rfl rfl rfl) ?_
 refine gl_v rfl (o_assign rfl) ?_
 refine gl_nil ?_
 refine ge_then ?_
 refine g_cond_false rfl ?_
 refine g_seq ?_
 refine g_region ?_
 refine gl_v rfl (o_move rfl) ?_
 refine gl_v rfl (o_is (c := true) (by exact decide_eq_true (by omega)) (o_eql rfl rfl)) ?_
 refine gl_v rfl (o_move rfl) ?_
 refine gl_gT rfl rfl rfl ?_
 refine gl_v rfl (o_move rfl) ?_
 refine gl_gT rfl rfl rfl ?_
 refine gl_v rfl (o_nil rfl) ?_
 refine gl_gT rfl rfl rfl ?_
 first | refine gl_v rfl (o_fldS rfl) ?_ | refine gl_v rfl (o_fld rfl) ?_
 refine gl_gT rfl rfl rfl ?_
 first | refine gl_v rfl (o_load rfl rfl) ?_ | refine gl_v rfl (o_loadS rfl rfl) ?_ | refine gl_v rfl (o_loadC rfl) ?_
 refine gl_gT rfl rfl rfl ?_
 refine gl_v rfl (o_nil rfl) ?_
 refine gl_gT rfl rfl rfl ?_
 first | refine gl_v rfl (o_fldS rfl) ?_ | refine gl_v rfl (o_fld rfl) ?_
 refine gl_gT rfl rfl rfl ?_
 first | refine gl_v rfl (o_load rfl rfl) ?_ | refine gl_v rfl (o_loadS rfl rfl) ?_ | refine gl_v rfl (o_loadC rfl) ?_
 refine gl_gT rfl rfl rfl ?_
 refine gl_v rfl (o_move rfl) ?_
 refine gl_gT rfl rfl rfl ?_
 refine gl_c rfl (o_call rfl (Cut_spec X.wp w id hw.ok) (by repeat (first | exact .nil | (apply Part.cons; · (repeat (first | exact .head | apply Sel.tail)))))) ?_
 rintro _ R ⟨_, ⟨rfl, rfl⟩, rfl⟩
 try simp only [List.cons_append, List.nil_append]
 refine gl_v rfl (o_pickT rfl rfl rfl) ?_
 refine gl_v rfl (o_assign rfl) ?_
 refine gl_nil ?_
 refine ge_then ?_
 refine g_cond_true (by show some (Value.bool (w.get id).isSome) = _; rw [he]) ?_
 refine g_region ?_
 refine gl_v rfl (o_move rfl) ?_
 refine gl_v rfl (o_move rfl) ?_
 refine gl_v rfl (o_nil rfl) ?_
 first | refine gl_v rfl (o_fldS rfl) ?_ | refine gl_v rfl (o_fld rfl) ?_
 first | refine gl_v rfl (o_load rfl rfl) ?_ | refine gl_v rfl (o_loadS rfl rfl) ?_ | refine gl_v rfl (o_loadC rfl) ?_
 refine gl_v rfl (o_move rfl) ?_
 first | refine gl_n rfl (o_buildS1 rfl rfl rfl) ?_ | refine gl_n rfl (o_buildS1A rfl rfl rfl rfl) ?_ | refine gl_n rfl (o_buildS rfl rfl rfl rfl) ?_
 rintro _ _ ⟨b52, rfl, rfl⟩
 refine gl_n rfl (o_append rfl rfl (by repeat (first | exact .nil | (apply Part.cons; · (repeat (first | exact .head | apply Sel.tail))))) rfl rfl rfl (by omega) (by unfold maxLen; omega)) ?_
 rintro _ _ ⟨a53, c53, rfl, rfl⟩
 rw [show cut.map U64 ++ [U64 id] = (cut ++ [id]).map U64 by simp, show cut.length + 1 = (cut ++ [id]).length by simp]
 refine gl_v rfl (o_nil rfl) ?_
 first | refine gl_v rfl (o_fldS rfl) ?_ | refine gl_v rfl (o_fld rfl) ?_
 first | refine gl_u (o_store rfl rfl rfl rfl) ?_ | refine gl_u (o_storeS rfl rfl rfl (by first | assumption | omega | simp)) ?_
 refine gl_nil ?_
 refine ge_block ?_
 refine ret0 (.inr rfl) rfl _ (⟨_, _, _, _, rfl, rfl⟩) (To.sat (by repeat (first | exact .nil | exact .done .refl | (apply To.cons; · (repeat (first | exact .head | apply Sel.tail))) | exact .done (by repeat (first | exact .refl | apply Drop.skip)))))

set_option maxRecDepth 8000 in
set_option maxHeartbeats 1000000 in
theorem asked_not (X : KX) (B : CB) (p : Nat) (x y : Value) (w : Wh) (hw : WI w) (id d : Int) (hd : 0 ≤ d ∧ d ≤ 4095) (a1 : Option Addr) (k1 : Nat) (a2 : Option Addr) (k2 : Nat) (cut ref : List Int) (hcu : cut.length ≤ 1000) (hre : ref.length ≤ 1000) (h : d = 0) (he : (w.get id).isSome = false) : FnS Tryz.prog 68 [ptr p 0, U64 id, I64 d] [opC p x y 0 0 (bxK X nilS (tl a1 k1 cut) (tl a2 k2 ref)), tlA a1 k1 cut, tlA a2 k2 ref, clkA X B, wheel X.wp w] (fun u Bs => ∃ a1' k1' a2' k2', u = .tuple #[] ∧ Bs = [opC p x y 0 0 (bxK X nilS (tl a1' k1' cut) (tl a2' k2' ref)), tlA a1' k1' cut, tlA a2' k2' ref, clkA X B, wheel X.wp (cutR w id)]) := by
 refine fn_body Tryz.func68 rfl rfl rfl ?_
 intro W0 R
 simp only [List.zipIdx_cons, List.zipIdx_nil, List.map_cons, List.map_nil, Nat.zero_add, Nat.reduceAdd, List.cons_append, List.nil_append]
 refine g_block ?_
 refine g_seq ?_
 refine g_region ?_
 refine gl_v rfl (o_move rfl) ?_
 refine gl_v rfl (o_is (c := false) (by exact decide_eq_false (by omega)) (o_gtr rfl rfl)) ?_
 refine gl_v rfl (o_move rfl) ?_
 refine gl_gF rfl rfl rfl rfl ?_
 refine gl_gF rfl rfl rfl rfl ?_
 refine gl_gF rfl rfl rfl rfl ?_
 refine gl_gF rfl rfl rfl rfl ?_
 refine gl_gF rfl rfl rfl rfl ?_
 refine gl_gF rfl rfl rfl rfl ?_
 refine gl_gF rfl rfl rfl rfl ?_
 refine gl_gF rfl rfl rfl rfl ?_
 refine gl_gF rfl rfl rfl rfl ?_
 refine gl_gF rfl rfl rfl rfl ?_
 refine gl_gF rfl rfl rfl rfl ?_
 refine gl_v rfl (o_pickF rfl rfl rfl) ?_
 refine gl_v rfl (o_assign rfl) ?_
 refine gl_nil ?_
 refine ge_then ?_
 refine g_cond_false rfl ?_
 refine g_seq ?_
 refine g_region ?_
 refine gl_v rfl (o_move rfl) ?_
 refine gl_v rfl (o_is (c := true) (by exact decide_eq_true (by omega)) (o_eql rfl rfl)) ?_
 refine gl_v rfl (o_move rfl) ?_
 refine gl_gT rfl rfl rfl ?_
 refine gl_v rfl (o_move rfl) ?_
 refine gl_gT rfl rfl rfl ?_
 refine gl_v rfl (o_nil rfl) ?_
 refine gl_gT rfl rfl rfl ?_
 first | refine gl_v rfl (o_fldS rfl) ?_ | refine gl_v rfl (o_fld rfl) ?_
 refine gl_gT rfl rfl rfl ?_
 first | refine gl_v rfl (o_load rfl rfl) ?_ | refine gl_v rfl (o_loadS rfl rfl) ?_ | refine gl_v rfl (o_loadC rfl) ?_
 refine gl_gT rfl rfl rfl ?_
 refine gl_v rfl (o_nil rfl) ?_
 refine gl_gT rfl rfl rfl ?_
 first | refine gl_v rfl (o_fldS rfl) ?_ | refine gl_v rfl (o_fld rfl) ?_
 refine gl_gT rfl rfl rfl ?_
 first | refine gl_v rfl (o_load rfl rfl) ?_ | refine gl_v rfl (o_loadS rfl rfl) ?_ | refine gl_v rfl (o_loadC rfl) ?_
 refine gl_gT rfl rfl rfl ?_
 refine gl_v rfl (o_move rfl) ?_
 refine gl_gT rfl rfl rfl ?_
 refine gl_c rfl (o_call rfl (Cut_spec X.wp w id hw.ok) (by repeat (first | exact .nil | (apply Part.cons; · (repeat (first | exact .head | apply Sel.tail)))))) ?_
 rintro _ R ⟨_, ⟨rfl, rfl⟩, rfl⟩
 try simp only [List.cons_append, List.nil_append]
 refine gl_v rfl (o_pickT rfl rfl rfl) ?_
 refine gl_v rfl (o_assign rfl) ?_
 refine gl_nil ?_
 refine ge_then ?_
 refine g_cond_false (by show some (Value.bool (w.get id).isSome) = _; rw [he]) ?_
 refine g_skip ?_
 refine ge_block ?_
 refine ret0 (.inr rfl) rfl _ (⟨_, _, _, _, rfl, rfl⟩) (To.sat (by repeat (first | exact .nil | exact .done .refl | (apply To.cons; · (repeat (first | exact .head | apply Sel.tail))) | exact .done (by repeat (first | exact .refl | apply Drop.skip)))))

theorem asked_spec (X : KX) (B : CB) (p : Nat) (x y : Value) (w : Wh) (hw : WI w) (v : Int) (hv : 0 ≤ v) (a1 : Option Addr) (k1 : Nat) (a2 : Option Addr) (k2 : Nat) (cut ref : List Int) (hcu : cut.length ≤ 1000) (hre : ref.length ≤ 1000) : FnS Tryz.prog 68 [ptr p 0, U64 (v / 4096), I64 (v % 4096)] [opC p x y 0 0 (bxK X nilS (tl a1 k1 cut) (tl a2 k2 ref)), tlA a1 k1 cut, tlA a2 k2 ref, clkA X B, wheel X.wp w] (fun u Bs => ∃ a1' k1' a2' k2', u = .tuple #[] ∧ Bs = [opC p x y 0 0 (bxK X nilS (tl a1' k1' (cut ++ askCut v w)) (tl a2' k2' (ref ++ askRef v w))), tlA a1' k1' (cut ++ askCut v w), tlA a2' k2' (ref ++ askRef v w), clkA X B, wheel X.wp (askW v w)]) := by
  have hm : 0 ≤ v % 4096 ∧ v % 4096 ≤ 4095 := by omega
  unfold askW askCut askRef
  by_cases h : v % 4096 = 0
  · cases he : (w.get (v / 4096)).isSome with
    | true =>
      rw [if_pos h, if_pos ⟨h, rfl⟩, if_neg (fun g => g.1 h), List.append_nil]
      exact asked_cut X B p x y w hw _ _ hm a1 k1 a2 k2 cut ref hcu hre h he
    | false =>
      rw [if_pos h, if_neg (fun g => by cases g.2), if_neg (fun g => g.1 h), List.append_nil, List.append_nil]
      exact asked_not X B p x y w hw _ _ hm a1 k1 a2 k2 cut ref hcu hre h he
  · by_cases he : addE w (v / 4096) (v % 4096) = 0
    · rw [if_neg h, if_neg (fun g => h g.1), if_neg (fun g => g.2 he), List.append_nil, List.append_nil]
      exact asked_add X B p x y w hw _ _ hm a1 k1 a2 k2 cut ref hcu hre h he
    · rw [if_neg h, if_neg (fun g => h g.1), if_pos ⟨h, he⟩, List.append_nil]
      exact asked_ref X B p x y w hw _ _ hm a1 k1 a2 k2 cut ref hcu hre h he

set_option maxRecDepth 8000 in
set_option maxHeartbeats 1000000 in
theorem take1_no (X : KX) (B : CB) (p q c1 c2 c3 left : Nat) (x y : Value) (o : RO) (hl : 1 ≤ left ∧ left ≤ 64) (w : Wh) (hw : WI w) (a1 : Option Addr) (k1 : Nat) (a2 : Option Addr) (k2 : Nat) (cut ref : List Int) (ho : o.out ≠ 1) : FnS Tryz.prog 67 [ptr c1 0, ptr c2 0, ptr c3 0] [opC p x y 0 0 (bxK X nilS (tl a1 k1 cut) (tl a2 k2 ref)), opA q X.r o, cel c1 116 [ptr q 0], cel c2 29 [ptr p 0], cel c3 3 [I64 left], tlA a1 k1 cut, tlA a2 k2 ref, clkA X B, wheel X.wp w] (fun u Bs => u = .tuple #[] ∧ Bs = [phK X B p cut ref (.tick ((w.now + 1 : Nat) : Int)), clkA X B, wheel X.wp w]) := by
 refine fn_body Tryz.func67 rfl rfl rfl ?_
 intro W0 R
 simp only [List.zipIdx_cons, List.zipIdx_nil, List.map_cons, List.map_nil, Nat.zero_add, Nat.reduceAdd, List.cons_append, List.nil_append]
 refine g_seq ?_
 refine g_seq ?_
 refine g_region ?_
 first | refine gl_v rfl (o_load rfl rfl) ?_ | refine gl_v rfl (o_loadS rfl rfl) ?_ | refine gl_v rfl (o_loadC rfl) ?_
 refine gl_c rfl (o_call rfl (Outcome_spec q X.r o) (by repeat (first | exact .nil | (apply Part.cons; · (repeat (first | exact .head | apply Sel.tail)))))) ?_
 rintro _ R ⟨_, ⟨rfl, rfl⟩, rfl⟩
 try simp only [List.cons_append, List.nil_append]
 refine gl_v rfl (o_is (c := true) (by simpa using ho) (o_neq rfl rfl)) ?_
 refine gl_nil ?_
 refine ge_then ?_
 refine g_cond_true rfl ?_
 refine g_seq ?_
 refine g_region ?_
 first | refine gl_v rfl (o_load rfl rfl) ?_ | refine gl_v rfl (o_loadS rfl rfl) ?_ | refine gl_v rfl (o_loadC rfl) ?_
 refine gl_c rfl (o_call rfl (tick_spec X B p x y w hw.now a1 k1 a2 k2 cut ref) (by repeat (first | exact .nil | (apply Part.cons; · (repeat (first | exact .head | apply Sel.tail)))))) ?_
 rintro _ R ⟨_, ⟨rfl, rfl⟩, rfl⟩
 try simp only [List.cons_append, List.nil_append]
 refine gl_nil ?_
 refine ge_then ?_
 refine g_ret ?_
 refine ge_then_ret ?_
 refine ret0 (.inl rfl) rfl [phK X B p cut ref (.tick ((w.now + 1 : Nat) : Int)), clkA X B, wheel X.wp w] (⟨rfl, rfl⟩) (To.sat (by repeat (first | exact .nil | exact .done .refl | (apply To.cons; · (repeat (first | exact .head | apply Sel.tail))) | exact .done (by repeat (first | exact .refl | apply Drop.skip)))))

set_option maxRecDepth 8000 in
set_option maxHeartbeats 1000000 in
theorem take1_yes (X : KX) (B : CB) (p q c1 c2 c3 left : Nat) (x y : Value) (o : RO) (hl : 1 ≤ left ∧ left ≤ 64) (w : Wh) (hw : WI w) (a1 : Option Addr) (k1 : Nat) (a2 : Option Addr) (k2 : Nat) (cut ref : List Int) (ho : o.out = 1) (hv0 : 0 ≤ o.value) (hv1 : o.value ≤ 18446744073709551615) (hcu : cut.length ≤ 1000) (hre : ref.length ≤ 1000) (hn2 : (askW o.value w).now < 3000000000000000000) : FnS Tryz.prog 67 [ptr c1 0, ptr c2 0, ptr c3 0] [opC p x y 0 0 (bxK X nilS (tl a1 k1 cut) (tl a2 k2 ref)), opA q X.r o, cel c1 116 [ptr q 0], cel c2 29 [ptr p 0], cel c3 3 [I64 left], tlA a1 k1 cut, tlA a2 k2 ref, clkA X B, wheel X.wp w] (fun u Bs => u = .tuple #[] ∧ Bs = [phK X B p (cut ++ askCut o.value w) (ref ++ askRef o.value w) (nextT (left - 1) (askW o.value w)), clkA X B, wheel X.wp (askW o.value w)]) := by
 refine fn_body Tryz.func67 rfl rfl rfl ?_
 intro W0 R
 simp only [List.zipIdx_cons, List.zipIdx_nil, List.map_cons, List.map_nil, Nat.zero_add, Nat.reduceAdd, List.cons_append, List.nil_append]
 refine g_seq ?_
 refine g_seq ?_
 refine g_region ?_
 first | refine gl_v rfl (o_load rfl rfl) ?_ | refine gl_v rfl (o_loadS rfl rfl) ?_ | refine gl_v rfl (o_loadC rfl) ?_
 refine gl_c rfl (o_call rfl (Outcome_spec q X.r o) (by repeat (first | exact .nil | (apply Part.cons; · (repeat (first | exact .head | apply Sel.tail)))))) ?_
 rintro _ R ⟨_, ⟨rfl, rfl⟩, rfl⟩
 try simp only [List.cons_append, List.nil_append]
 refine gl_v rfl (o_is (c := false) (by simpa using ho) (o_neq rfl rfl)) ?_
 refine gl_nil ?_
 refine ge_then ?_
 refine g_cond_false rfl ?_
 refine g_skip ?_
 refine ge_then ?_
 refine g_seq ?_
 refine g_draw [2, 5, 8] [2, 5] [(0, .stab), (1, .loc), (4, .stab), (2, .eff), (3, .stab), (5, .eff), (6, .loc), (7, .loc), (8, .eff)] [cel c1 116 [ptr q 0], cel c2 29 [ptr p 0]] mixed (by kernel_rfl) ?_
 first | refine go_vs rfl .none rfl (o_load rfl rfl) (To.sat (by repeat (first | exact .nil | exact .done .refl | (apply To.cons; · (repeat (first | exact .head | apply Sel.tail))) | exact .done (by repeat (first | exact .refl | apply Drop.skip))))) ?_ | refine go_vs rfl .none rfl (o_loadS rfl rfl) (To.sat (by repeat (first | exact .nil | exact .done .refl | (apply To.cons; · (repeat (first | exact .head | apply Sel.tail))) | exact .done (by repeat (first | exact .refl | apply Drop.skip))))) ?_ | refine go_vs rfl .none rfl (o_loadC rfl) (To.sat (by repeat (first | exact .nil | exact .done .refl | (apply To.cons; · (repeat (first | exact .head | apply Sel.tail))) | exact .done (by repeat (first | exact .refl | apply Drop.skip))))) ?_
 first | refine go_v rfl .none rfl (o_load rfl rfl) ?_ | refine go_v rfl .none rfl (o_loadS rfl rfl) ?_ | refine go_v rfl .none rfl (o_loadC rfl) ?_
 first | refine go_vs rfl .none rfl (o_load rfl rfl) (To.sat (by repeat (first | exact .nil | exact .done .refl | (apply To.cons; · (repeat (first | exact .head | apply Sel.tail))) | exact .done (by repeat (first | exact .refl | apply Drop.skip))))) ?_ | refine go_vs rfl .none rfl (o_loadS rfl rfl) (To.sat (by repeat (first | exact .nil | exact .done .refl | (apply To.cons; · (repeat (first | exact .head | apply Sel.tail))) | exact .done (by repeat (first | exact .refl | apply Drop.skip))))) ?_ | refine go_vs rfl .none rfl (o_loadC rfl) (To.sat (by repeat (first | exact .nil | exact .done .refl | (apply To.cons; · (repeat (first | exact .head | apply Sel.tail))) | exact .done (by repeat (first | exact .refl | apply Drop.skip))))) ?_
 refine go_c rfl .none rfl (o_call rfl (Value_spec q X.r o) (by repeat (first | exact .nil | (apply Part.cons; · (repeat (first | exact .head | apply Sel.tail)))))) ?_
 rintro _ R ⟨_, ⟨rfl, rfl⟩, rfl⟩
 try simp only [List.cons_append, List.nil_append]
 refine ⟨(fun _ => (To.sat (by repeat (first | exact .nil | exact .done .refl | (apply To.cons; · (repeat (first | exact .head | apply Sel.tail))) | exact .done (by repeat (first | exact .refl | apply Drop.skip)))))), ?_⟩
 refine go_vs rfl .none rfl (o_quoR (o.value / 4096) (u64_quo hv0 hv1) rfl rfl (by decide)) (To.sat (by repeat (first | exact .nil | exact .done .refl | (apply To.cons; · (repeat (first | exact .head | apply Sel.tail))) | exact .done (by repeat (first | exact .refl | apply Drop.skip))))) ?_
 refine go_c rfl .none rfl (o_call rfl (Value_spec q X.r o) (by repeat (first | exact .nil | (apply Part.cons; · (repeat (first | exact .head | apply Sel.tail)))))) ?_
 rintro _ R ⟨_, ⟨rfl, rfl⟩, rfl⟩
 try simp only [List.cons_append, List.nil_append]
 refine ⟨(fun _ => (To.sat (by repeat (first | exact .nil | exact .done .refl | (apply To.cons; · (repeat (first | exact .head | apply Sel.tail))) | exact .done (by repeat (first | exact .refl | apply Drop.skip)))))), ?_⟩
 refine go_v rfl .none rfl (o_remR (o.value % 4096) (Int.tmod_eq_emod_of_nonneg hv0) rfl rfl (by decide)) ?_
 refine go_v rfl .none rfl (o_convR (o.value % 4096) (wr_i64 (by omega)) rfl) ?_
 refine go_c rfl .none rfl (o_call rfl (asked_spec X B p x y w hw o.value hv0 a1 k1 a2 k2 cut ref hcu hre) (by repeat (first | exact .nil | (apply Part.cons; · (repeat (first | exact .head | apply Sel.tail)))))) ?_
 rintro _ R ⟨_, ⟨a1', k1', a2', k2', rfl, rfl⟩, rfl⟩
 try simp only [List.cons_append, List.nil_append]
 refine ⟨(fun hG => absurd hG (by decide)), ?_⟩
 refine go_nil ?_
 refine ge_then ?_
 refine g_region ?_
 first | refine gl_v rfl (o_load rfl rfl) ?_ | refine gl_v rfl (o_loadS rfl rfl) ?_ | refine gl_v rfl (o_loadC rfl) ?_
 first | refine gl_v rfl (o_load rfl rfl) ?_ | refine gl_v rfl (o_loadS rfl rfl) ?_ | refine gl_v rfl (o_loadC rfl) ?_
 refine gl_v rfl (o_subR ((left - 1 : Nat) : Int) (by rw [wr_i64 (by omega)]; omega) rfl rfl) ?_
 refine gl_c rfl (o_call rfl (take_spec X B p x y (askW o.value w) hn2 (left - 1) (by omega) a1' k1' a2' k2' (cut ++ askCut o.value w) (ref ++ askRef o.value w)) (by repeat (first | exact .nil | (apply Part.cons; · (repeat (first | exact .head | apply Sel.tail)))))) ?_
 rintro _ R ⟨_, ⟨rfl, rfl⟩, rfl⟩
 try simp only [List.cons_append, List.nil_append]
 refine gl_nil ?_
 refine ret0 (.inr rfl) rfl [phK X B p (cut ++ askCut o.value w) (ref ++ askRef o.value w) (nextT (left - 1) (askW o.value w)), clkA X B, wheel X.wp (askW o.value w)] (⟨rfl, rfl⟩) (To.sat (by repeat (first | exact .nil | exact .done .refl | (apply To.cons; · (repeat (first | exact .head | apply Sel.tail))) | exact .done (by repeat (first | exact .refl | apply Drop.skip)))))

set_option maxRecDepth 8000 in
set_option maxHeartbeats 1000000 in
theorem tick1_spec (X : KX) (B : CB) (p c1 : Nat) (x y : Value) (w : Wh) (hw : WI w) (a1 : Option Addr) (k1 : Nat) (a2 : Option Addr) (k2 : Nat) (cut ref : List Int) : FnS Tryz.prog 86 [ptr c1 0] [opC p x y 0 0 (bxK X nilS (tl a1 k1 cut) (tl a2 k2 ref)), cel c1 29 [ptr p 0], tlA a1 k1 cut, tlA a2 k2 ref, clkA X B, wheel X.wp w] (fun u Bs => u = .tuple #[] ∧ Bs = [ovK X p ⟨.now, 1, 0, ((dueL w).map (·.id)), cut, ref⟩, clkA X B, wheel X.wp (tickR w)]) := by
 refine fn_body Tryz.func86 rfl rfl rfl ?_
 intro W0 R
 simp only [List.zipIdx_cons, List.zipIdx_nil, List.map_cons, List.map_nil, Nat.zero_add, Nat.reduceAdd, List.cons_append, List.nil_append]
 refine g_seq ?_
 refine g_draw [8, 11] [8] [(0, .stab), (1, .loc), (2, .loc), (3, .loc), (4, .loc), (5, .loc), (6, .loc), (7, .loc), (8, .eff), (9, .loc), (10, .loc), (11, .eff)] [cel c1 29 [ptr p 0], clkA X B] mixed (by kernel_rfl) ?_
 first | refine go_vs rfl .none rfl (o_load rfl rfl) (To.sat (by repeat (first | exact .nil | exact .done .refl | (apply To.cons; · (repeat (first | exact .head | apply Sel.tail))) | exact .done (by repeat (first | exact .refl | apply Drop.skip))))) ?_ | refine go_vs rfl .none rfl (o_loadS rfl rfl) (To.sat (by repeat (first | exact .nil | exact .done .refl | (apply To.cons; · (repeat (first | exact .head | apply Sel.tail))) | exact .done (by repeat (first | exact .refl | apply Drop.skip))))) ?_ | refine go_vs rfl .none rfl (o_loadC rfl) (To.sat (by repeat (first | exact .nil | exact .done .refl | (apply To.cons; · (repeat (first | exact .head | apply Sel.tail))) | exact .done (by repeat (first | exact .refl | apply Drop.skip))))) ?_
 first | refine go_v rfl .none rfl (o_load rfl rfl) ?_ | refine go_v rfl .none rfl (o_loadS rfl rfl) ?_ | refine go_v rfl .none rfl (o_loadC rfl) ?_
 refine go_v rfl .none rfl (o_nil rfl) ?_
 first | refine go_v rfl .none rfl (o_fldS rfl) ?_ | refine go_v rfl .none rfl (o_fld rfl) ?_
 first | refine go_v rfl .none rfl (o_load rfl rfl) ?_ | refine go_v rfl .none rfl (o_loadS rfl rfl) ?_ | refine go_v rfl .none rfl (o_loadC rfl) ?_
 refine go_v rfl .none rfl (o_nil rfl) ?_
 first | refine go_v rfl .none rfl (o_fldS rfl) ?_ | refine go_v rfl .none rfl (o_fld rfl) ?_
 first | refine go_v rfl .none rfl (o_load rfl rfl) ?_ | refine go_v rfl .none rfl (o_loadS rfl rfl) ?_ | refine go_v rfl .none rfl (o_loadC rfl) ?_
 refine go_c rfl .none rfl (o_call rfl (Tick_spec X.wp w hw.ok hw.now (by have := hw.seq; omega)) (by repeat (first | exact .nil | (apply Part.cons; · (repeat (first | exact .head | apply Sel.tail)))))) ?_
 rintro _ R ⟨_, ⟨a0, k0, rfl, rfl⟩, rfl⟩
 try simp only [List.cons_append, List.nil_append]
 rw [show (dueL w).length = ((dueL w).map (·.id)).length by simp, show ((dueL w).map fun t => U64 t.id) = ((dueL w).map (·.id)).map U64 by simp]
 refine ⟨(fun _ => (To.sat (by repeat (first | exact .nil | exact .done .refl | (apply To.cons; · (repeat (first | exact .head | apply Sel.tail))) | exact .done (by repeat (first | exact .refl | apply Drop.skip)))))), ?_⟩
 refine go_v rfl .none rfl (o_nil rfl) ?_
 first | refine go_v rfl .none rfl (o_fldS rfl) ?_ | refine go_v rfl .none rfl (o_fld rfl) ?_
 first | refine go_u rfl .none (o_store rfl rfl rfl rfl) (fun hG => absurd hG (by decide)) ?_ | refine go_u rfl .none (o_storeS rfl rfl rfl (by first | assumption | omega | simp)) (fun hG => absurd hG (by decide)) ?_
 refine go_nil ?_
 refine ge_then ?_
 refine g_region ?_
 first | refine gl_v rfl (o_load rfl rfl) ?_ | refine gl_v rfl (o_loadS rfl rfl) ?_ | refine gl_v rfl (o_loadC rfl) ?_
 refine gl_v rfl (o_nil rfl) ?_
 first | refine gl_v rfl (o_fldS rfl) ?_ | refine gl_v rfl (o_fld rfl) ?_
 refine gl_c rfl (o_call rfl (End_spec p (bxK X (tl a0 k0 ((dueL w).map (·.id))) (tl a1 k1 cut) (tl a2 k2 ref)) x y 0 0 1 0) (by repeat (first | exact .nil | (apply Part.cons; · (repeat (first | exact .head | apply Sel.tail)))))) ?_
 rintro _ R ⟨_, ⟨rfl, rfl⟩, rfl⟩
 try simp only [List.cons_append, List.nil_append]
 refine gl_nil ?_
 refine ret0 (.inr rfl) rfl [ovK X p ⟨.now, 1, 0, ((dueL w).map (·.id)), cut, ref⟩, clkA X B, wheel X.wp (tickR w)] (⟨rfl, rfl⟩) (ex_close (x, y, a0, k0, a1, k1, a2, k2) trivial (To.sat (by repeat (first | exact .nil | exact .done .refl | (apply To.cons; · (repeat (first | exact .head | apply Sel.tail))) | exact .done (by repeat (first | exact .refl | apply Drop.skip))))))

set_option maxRecDepth 8000 in
set_option maxHeartbeats 1000000 in
theorem put1_spec (X : KX) (B : CB) (p q c1 c2 : Nat) (x y : Value) (o : RO) (bx : BXT) : FnS Tryz.prog 63 [ptr c1 0, ptr c2 0] [opC p x y 0 0 bx, opA q X.r o, cel c1 29 [ptr p 0], cel c2 116 [ptr q 0]] (fun u Bs => u = .tuple #[] ∧ Bs = [opC p x y o.out 0 bx]) := by
 refine fn_body Tryz.func63 rfl rfl rfl ?_
 intro W0 R
 simp only [List.zipIdx_cons, List.zipIdx_nil, List.map_cons, List.map_nil, Nat.zero_add, Nat.reduceAdd, List.cons_append, List.nil_append]
 refine g_draw [4, 5] [4] [(0, .stab), (1, .stab), (2, .stab), (3, .loc), (4, .eff), (5, .eff)] [cel c1 29 [ptr p 0], cel c2 116 [ptr q 0]] mixed (by kernel_rfl) ?_
 first | refine go_vs rfl .none rfl (o_load rfl rfl) (To.sat (by repeat (first | exact .nil | exact .done .refl | (apply To.cons; · (repeat (first | exact .head | apply Sel.tail))) | exact .done (by repeat (first | exact .refl | apply Drop.skip))))) ?_ | refine go_vs rfl .none rfl (o_loadS rfl rfl) (To.sat (by repeat (first | exact .nil | exact .done .refl | (apply To.cons; · (repeat (first | exact .head | apply Sel.tail))) | exact .done (by repeat (first | exact .refl | apply Drop.skip))))) ?_ | refine go_vs rfl .none rfl (o_loadC rfl) (To.sat (by repeat (first | exact .nil | exact .done .refl | (apply To.cons; · (repeat (first | exact .head | apply Sel.tail))) | exact .done (by repeat (first | exact .refl | apply Drop.skip))))) ?_
 refine go_vs rfl .none rfl (o_nil rfl) (To.sat (by repeat (first | exact .nil | exact .done .refl | (apply To.cons; · (repeat (first | exact .head | apply Sel.tail))) | exact .done (by repeat (first | exact .refl | apply Drop.skip))))) ?_
 first | refine go_vs rfl .none rfl (o_fldS rfl) (To.sat (by repeat (first | exact .nil | exact .done .refl | (apply To.cons; · (repeat (first | exact .head | apply Sel.tail))) | exact .done (by repeat (first | exact .refl | apply Drop.skip))))) ?_ | refine go_vs rfl .none rfl (o_fld rfl) (To.sat (by repeat (first | exact .nil | exact .done .refl | (apply To.cons; · (repeat (first | exact .head | apply Sel.tail))) | exact .done (by repeat (first | exact .refl | apply Drop.skip))))) ?_
 first | refine go_v rfl .none rfl (o_load rfl rfl) ?_ | refine go_v rfl .none rfl (o_loadS rfl rfl) ?_ | refine go_v rfl .none rfl (o_loadC rfl) ?_
 refine go_c rfl .none rfl (o_call rfl (Outcome_spec q X.r o) (by repeat (first | exact .nil | (apply Part.cons; · (repeat (first | exact .head | apply Sel.tail)))))) ?_
 rintro _ R ⟨_, ⟨rfl, rfl⟩, rfl⟩
 try simp only [List.cons_append, List.nil_append]
 refine ⟨(fun _ => (To.sat (by repeat (first | exact .nil | exact .done .refl | (apply To.cons; · (repeat (first | exact .head | apply Sel.tail))) | exact .done (by repeat (first | exact .refl | apply Drop.skip)))))), ?_⟩
 refine go_c rfl .none rfl (o_call rfl (End_spec p bx x y 0 0 o.out 0) (by repeat (first | exact .nil | (apply Part.cons; · (repeat (first | exact .head | apply Sel.tail)))))) ?_
 rintro _ R ⟨_, ⟨rfl, rfl⟩, rfl⟩
 try simp only [List.cons_append, List.nil_append]
 refine ⟨(fun hG => absurd hG (by decide)), ?_⟩
 refine go_nil ?_
 refine ret0 (.inr rfl) rfl [opC p x y o.out 0 bx] (⟨rfl, rfl⟩) (To.sat (by repeat (first | exact .nil | exact .done .refl | (apply To.cons; · (repeat (first | exact .head | apply Sel.tail))) | exact .done (by repeat (first | exact .refl | apply Drop.skip)))))

set_option maxRecDepth 8000 in
set_option maxHeartbeats 1000000 in
theorem now1_spec (X : KX) (B : CB) (p τ c1 c2 : Nat) (x y : Value) (v : Int) (won : Bool) (bx : BXT) : FnS Tryz.prog 53 [ptr c1 0, ptr c2 0] [opC p x y 0 0 bx, tDone τ v won, cel c1 29 [ptr p 0], cel c2 101 [ptr τ 0]] (fun u Bs => u = .tuple #[] ∧ Bs = [opC p x y 1 v bx]) := by
 refine fn_body Tryz.func53 rfl rfl rfl ?_
 intro W0 R
 simp only [List.zipIdx_cons, List.zipIdx_nil, List.map_cons, List.map_nil, Nat.zero_add, Nat.reduceAdd, List.cons_append, List.nil_append]
 refine g_open (by repeat (first | exact .head | apply Sel.tail)) ?_
 rintro f -
 simp only [List.cons_append, List.nil_append]
 refine g_draw [7] [] [(0, .loc), (1, .loc), (2, .loc), (3, .loc), (4, .loc), (5, .loc), (6, .loc), (7, .eff)] [cel c1 29 [ptr p 0], cel c2 101 [ptr τ 0], tchC τ f true v won] mixed (by kernel_rfl) ?_
 first | refine go_v rfl .none rfl (o_load rfl rfl) ?_ | refine go_v rfl .none rfl (o_loadS rfl rfl) ?_ | refine go_v rfl .none rfl (o_loadC rfl) ?_
 refine go_v rfl .none rfl (o_nil rfl) ?_
 first | refine go_v rfl .none rfl (o_fldS rfl) ?_ | refine go_v rfl .none rfl (o_fld rfl) ?_
 first | refine go_v rfl .none rfl (o_load rfl rfl) ?_ | refine go_v rfl .none rfl (o_loadS rfl rfl) ?_ | refine go_v rfl .none rfl (o_loadC rfl) ?_
 refine go_v rfl .none rfl (o_nil rfl) ?_
 first | refine go_v rfl .none rfl (o_fldS rfl) ?_ | refine go_v rfl .none rfl (o_fld rfl) ?_
 first | refine go_v rfl .none rfl (o_load rfl rfl) ?_ | refine go_v rfl .none rfl (o_loadS rfl rfl) ?_ | refine go_v rfl .none rfl (o_loadC rfl) ?_
 refine go_c rfl .none rfl (o_call rfl (End_spec p bx x y 0 0 1 v) (by repeat (first | exact .nil | (apply Part.cons; · (repeat (first | exact .head | apply Sel.tail)))))) ?_
 rintro _ R ⟨_, ⟨rfl, rfl⟩, rfl⟩
 try simp only [List.cons_append, List.nil_append]
 refine ⟨(fun hG => absurd hG (by decide)), ?_⟩
 refine go_nil ?_
 refine ret0 (.inr rfl) rfl [opC p x y 1 v bx] (⟨rfl, rfl⟩) (To.sat (by repeat (first | exact .nil | exact .done .refl | (apply To.cons; · (repeat (first | exact .head | apply Sel.tail))) | exact .done (by repeat (first | exact .refl | apply Drop.skip)))))

set_option maxRecDepth 8000 in
set_option maxHeartbeats 1000000 in
theorem put_no1 (X : KX) (B : CB) (id d : Int) : FnS Tryz.prog 40 [ptr X.c 0, U64 id, I64 d, .bool false] [clkA X B] (fun u Bs => ∃ p, u = ptr p 0 ∧ Bs = [opK X B p ({ noC .now with out := 4 }), clkA X B]) := by
 refine fn_body Tryz.func40 rfl rfl rfl ?_
 intro W0 R
 simp only [List.zipIdx_cons, List.zipIdx_nil, List.map_cons, List.map_nil, Nat.zero_add, Nat.reduceAdd, List.cons_append, List.nil_append]
 refine g_seq ?_
 refine g_region ?_
 refine gl_v rfl (o_assign rfl) ?_
 refine gl_nil ?_
 refine ge_then ?_
 refine g_seq ?_
 refine g_region ?_
 refine gl_v rfl (o_move rfl) ?_
 refine gl_v rfl (o_build rfl rfl) ?_
 refine gl_n rfl (o_boxA rfl) ?_
 rintro _ _ ⟨b13, rfl, rfl⟩
 refine gl_n rfl (o_alloc) ?_
 rintro _ _ ⟨b9, rfl, rfl⟩
 first | refine gl_u (o_store rfl rfl rfl rfl) ?_ | refine gl_u (o_storeS rfl rfl rfl (by first | assumption | omega | simp)) ?_
 refine gl_nil ?_
 refine ge_then ?_
 refine g_seq ?_
 refine g_seq ?_
 refine g_region ?_
 refine gl_v rfl (o_move rfl) ?_
 refine gl_v rfl (o_is (c := true) (by rfl) (o_not rfl)) ?_
 refine gl_v rfl (o_move rfl) ?_
 refine gl_gF rfl rfl rfl rfl ?_
 refine gl_gF rfl rfl rfl rfl ?_
 refine gl_v rfl (o_pickT rfl rfl rfl) ?_
 refine gl_nil ?_
 refine ge_then ?_
 refine g_cond_true rfl ?_
 refine g_seq ?_
 refine g_region ?_
 first | refine gl_v rfl (o_load rfl rfl) ?_ | refine gl_v rfl (o_loadS rfl rfl) ?_ | refine gl_v rfl (o_loadC rfl) ?_
 refine gl_v rfl (o_nil rfl) ?_
 first | refine gl_v rfl (o_fldS rfl) ?_ | refine gl_v rfl (o_fld rfl) ?_
 refine gl_c rfl (o_call rfl (End_spec b13 (bxK X nilS nilS nilS) _ _ 0 0 4 0) (by repeat (first | exact .nil | (apply Part.cons; · (repeat (first | exact .head | apply Sel.tail)))))) ?_
 rintro _ R ⟨_, ⟨rfl, rfl⟩, rfl⟩
 try simp only [List.cons_append, List.nil_append]
 refine gl_nil ?_
 refine ge_then ?_
 refine g_seq ?_
 refine g_region ?_
 first | refine gl_v rfl (o_load rfl rfl) ?_ | refine gl_v rfl (o_loadS rfl rfl) ?_ | refine gl_v rfl (o_loadC rfl) ?_
 refine gl_v rfl (o_assign rfl) ?_
 refine gl_nil ?_
 refine ge_then ?_
 refine g_ret ?_
 refine ge_then_ret ?_
 refine ret1 (.inl rfl) rfl rfl [opK X B b13 { noC .now with out := 4 }, clkA X B] (⟨b13, rfl, rfl⟩) (op_ov (by decide) (_, _, none, 0, none, 0, none, 0) (fun h s => Sat.tail (fun h s => tl_nil3 h s) ((To.sat (by repeat (first | exact .nil | exact .done .refl | (apply To.cons; · (repeat (first | exact .head | apply Sel.tail))) | exact .done (by repeat (first | exact .refl | apply Drop.skip))))) h s)))

set_option maxRecDepth 8000 in
set_option maxHeartbeats 1000000 in
theorem put_no2 (X : KX) (B : CB) (id d : Int) (h : 1125899906842624 < id) : FnS Tryz.prog 40 [ptr X.c 0, U64 id, I64 d, .bool true] [clkA X B] (fun u Bs => ∃ p, u = ptr p 0 ∧ Bs = [opK X B p ({ noC .now with out := 4 }), clkA X B]) := by
 refine fn_body Tryz.func40 rfl rfl rfl ?_
 intro W0 R
 simp only [List.zipIdx_cons, List.zipIdx_nil, List.map_cons, List.map_nil, Nat.zero_add, Nat.reduceAdd, List.cons_append, List.nil_append]
 refine g_seq ?_
 refine g_region ?_
 refine gl_v rfl (o_assign rfl) ?_
 refine gl_nil ?_
 refine ge_then ?_
 refine g_seq ?_
 refine g_region ?_
 refine gl_v rfl (o_move rfl) ?_
 refine gl_v rfl (o_build rfl rfl) ?_
 refine gl_n rfl (o_boxA rfl) ?_
 rintro _ _ ⟨b13, rfl, rfl⟩
 refine gl_n rfl (o_alloc) ?_
 rintro _ _ ⟨b9, rfl, rfl⟩
 first | refine gl_u (o_store rfl rfl rfl rfl) ?_ | refine gl_u (o_storeS rfl rfl rfl (by first | assumption | omega | simp)) ?_
 refine gl_nil ?_
 refine ge_then ?_
 refine g_seq ?_
 refine g_seq ?_
 refine g_region ?_
 refine gl_v rfl (o_move rfl) ?_
 refine gl_v rfl (o_is (c := false) (by rfl) (o_not rfl)) ?_
 refine gl_v rfl (o_move rfl) ?_
 refine gl_gT rfl rfl rfl ?_
 refine gl_v rfl (o_move rfl) ?_
 refine gl_gT rfl rfl rfl ?_
 refine gl_v rfl (o_is (c := true) (by exact decide_eq_true (by omega)) (o_gtr rfl rfl)) ?_
 refine gl_v rfl (o_pickF rfl rfl rfl) ?_
 refine gl_nil ?_
 refine ge_then ?_
 refine g_cond_true rfl ?_
 refine g_seq ?_
 refine g_region ?_
 first | refine gl_v rfl (o_load rfl rfl) ?_ | refine gl_v rfl (o_loadS rfl rfl) ?_ | refine gl_v rfl (o_loadC rfl) ?_
 refine gl_v rfl (o_nil rfl) ?_
 first | refine gl_v rfl (o_fldS rfl) ?_ | refine gl_v rfl (o_fld rfl) ?_
 refine gl_c rfl (o_call rfl (End_spec b13 (bxK X nilS nilS nilS) _ _ 0 0 4 0) (by repeat (first | exact .nil | (apply Part.cons; · (repeat (first | exact .head | apply Sel.tail)))))) ?_
 rintro _ R ⟨_, ⟨rfl, rfl⟩, rfl⟩
 try simp only [List.cons_append, List.nil_append]
 refine gl_nil ?_
 refine ge_then ?_
 refine g_seq ?_
 refine g_region ?_
 first | refine gl_v rfl (o_load rfl rfl) ?_ | refine gl_v rfl (o_loadS rfl rfl) ?_ | refine gl_v rfl (o_loadC rfl) ?_
 refine gl_v rfl (o_assign rfl) ?_
 refine gl_nil ?_
 refine ge_then ?_
 refine g_ret ?_
 refine ge_then_ret ?_
 refine ret1 (.inl rfl) rfl rfl [opK X B b13 { noC .now with out := 4 }, clkA X B] (⟨b13, rfl, rfl⟩) (op_ov (by decide) (_, _, none, 0, none, 0, none, 0) (fun h s => Sat.tail (fun h s => tl_nil3 h s) ((To.sat (by repeat (first | exact .nil | exact .done .refl | (apply To.cons; · (repeat (first | exact .head | apply Sel.tail))) | exact .done (by repeat (first | exact .refl | apply Drop.skip))))) h s)))

set_option maxRecDepth 8000 in
set_option maxHeartbeats 1000000 in
theorem put_yes (X : KX) (B : CB) (id d : Int) (hid : 0 ≤ id) (h : id ≤ 1125899906842624) (hd : 0 ≤ d ∧ d ≤ 4095) : FnS Tryz.prog 40 [ptr X.c 0, U64 id, I64 d, .bool true] [clkA X B] (fun u Bs => ∃ p, u = ptr p 0 ∧ Bs = [opK X B p (noC (.put (ini 0 (id * 4096 + d)))), clkA X B]) := by
 refine fn_body Tryz.func40 rfl rfl rfl ?_
 intro W0 R
 simp only [List.zipIdx_cons, List.zipIdx_nil, List.map_cons, List.map_nil, Nat.zero_add, Nat.reduceAdd, List.cons_append, List.nil_append]
 refine g_seq ?_
 refine g_region ?_
 refine gl_v rfl (o_assign rfl) ?_
 refine gl_nil ?_
 refine ge_then ?_
 refine g_seq ?_
 refine g_region ?_
 refine gl_v rfl (o_move rfl) ?_
 refine gl_v rfl (o_build rfl rfl) ?_
 refine gl_n rfl (o_boxA rfl) ?_
 rintro _ _ ⟨b13, rfl, rfl⟩
 refine gl_n rfl (o_alloc) ?_
 rintro _ _ ⟨b9, rfl, rfl⟩
 first | refine gl_u (o_store rfl rfl rfl rfl) ?_ | refine gl_u (o_storeS rfl rfl rfl (by first | assumption | omega | simp)) ?_
 refine gl_nil ?_
 refine ge_then ?_
 refine g_seq ?_
 refine g_seq ?_
 refine g_region ?_
 refine gl_v rfl (o_move rfl) ?_
 refine gl_v rfl (o_is (c := false) (by rfl) (o_not rfl)) ?_
 refine gl_v rfl (o_move rfl) ?_
 refine gl_gT rfl rfl rfl ?_
 refine gl_v rfl (o_move rfl) ?_
 refine gl_gT rfl rfl rfl ?_
 refine gl_v rfl (o_is (c := false) (by exact decide_eq_false (by omega)) (o_gtr rfl rfl)) ?_
 refine gl_v rfl (o_pickF rfl rfl rfl) ?_
 refine gl_nil ?_
 refine ge_then ?_
 refine g_cond_false rfl ?_
 refine g_skip ?_
 refine ge_then ?_
 refine g_seq ?_
 refine g_region ?_
 refine gl_v rfl (o_move rfl) ?_
 refine gl_v rfl (o_nil rfl) ?_
 first | refine gl_v rfl (o_fldS rfl) ?_ | refine gl_v rfl (o_fld rfl) ?_
 first | refine gl_v rfl (o_load rfl rfl) ?_ | refine gl_v rfl (o_loadS rfl rfl) ?_ | refine gl_v rfl (o_loadC rfl) ?_
 refine gl_v rfl (o_move rfl) ?_
 refine gl_v rfl (o_mulR (id * 4096) (wr_u64 (by omega)) rfl rfl) ?_
 refine gl_v rfl (o_move rfl) ?_
 refine gl_v rfl (o_convR d (wr_u64 (by omega)) rfl) ?_
 refine gl_v rfl (o_addR (id * 4096 + d) (wr_u64 (by omega)) rfl rfl) ?_
 refine gl_c rfl (o_call rfl (Put_spec X.r (id * 4096 + d)) (by repeat (first | exact .nil | (apply Part.cons; · (repeat (first | exact .head | apply Sel.tail)))))) ?_
 rintro _ R ⟨_, ⟨q, rfl, rfl⟩, rfl⟩
 try simp only [List.cons_append, List.nil_append]
 refine gl_n rfl (o_alloc) ?_
 rintro _ _ ⟨b10, rfl, rfl⟩
 first | refine gl_u (o_store rfl rfl rfl rfl) ?_ | refine gl_u (o_storeS rfl rfl rfl (by first | assumption | omega | simp)) ?_
 refine gl_nil ?_
 refine ge_then ?_
 refine g_seq ?_
 refine g_draw [6] [] [(0, .loc), (1, .loc), (2, .loc), (3, .loc), (4, .loc), (5, .loc), (6, .eff)] [cel b9 29 [ptr b13 0], cel b10 116 [ptr q 0]] mixed (by kernel_rfl) ?_
 first | refine go_v rfl .none rfl (o_load rfl rfl) ?_ | refine go_v rfl .none rfl (o_loadS rfl rfl) ?_ | refine go_v rfl .none rfl (o_loadC rfl) ?_
 refine go_v rfl .none rfl (o_nil rfl) ?_
 first | refine go_v rfl .none rfl (o_fldS rfl) ?_ | refine go_v rfl .none rfl (o_fld rfl) ?_
 first | refine go_v rfl .none rfl (o_load rfl rfl) ?_ | refine go_v rfl .none rfl (o_loadS rfl rfl) ?_ | refine go_v rfl .none rfl (o_loadC rfl) ?_
 refine go_v rfl .none rfl (o_iface Tryz.underlying116 rfl rfl) ?_
 refine go_v rfl .none rfl (o_func rfl rfl) ?_
 refine go_c rfl .none rfl (o_call rfl (Do_ring b13 q X.r (bxK X nilS nilS nilS) _ _ _ rfl 0 0 (ini 0 (id * 4096 + d)) rfl) (by repeat (first | exact .nil | (apply Part.cons; · (repeat (first | exact .head | apply Sel.tail)))))) ?_
 rintro _ R ⟨_, ⟨rfl, rfl⟩, rfl⟩
 try simp only [List.cons_append, List.nil_append]
 refine ⟨(fun hG => absurd hG (by decide)), ?_⟩
 refine go_nil ?_
 refine ge_then ?_
 refine g_seq ?_
 refine g_region ?_
 first | refine gl_v rfl (o_load rfl rfl) ?_ | refine gl_v rfl (o_loadS rfl rfl) ?_ | refine gl_v rfl (o_loadC rfl) ?_
 refine gl_v rfl (o_assign rfl) ?_
 refine gl_nil ?_
 refine ge_then ?_
 refine g_ret ?_
 refine ret1 (.inl rfl) rfl rfl [opK X B b13 (noC (.put (ini 0 (id * 4096 + d)))), clkA X B] (⟨b13, rfl, rfl⟩) (op_go rfl (ex_close (q, b9, b10, 0, none, 0, none, 0) trivial (fun h s => Sat.tail (fun h s => Sat.tail (fun h s => Sat.tail (fun h s => Sat.tail (fun h s => tl_nil2 h s) s) s) s) ((To.sat (by repeat (first | exact .nil | exact .done .refl | (apply To.cons; · (repeat (first | exact .head | apply Sel.tail))) | exact .done (by repeat (first | exact .refl | apply Drop.skip))))) h s))))

theorem put_spec (X : KX) (B : CB) (id d : Int) (may : Bool) (hid : 0 ≤ id) (hd : may = true → 0 ≤ d ∧ d ≤ 4095) : FnS Tryz.prog 40 [ptr X.c 0, U64 id, I64 d, .bool may] [clkA X B] (fun u Bs => ∃ p, u = ptr p 0 ∧ Bs = [opK X B p (if may = true ∧ id ≤ 1125899906842624 then noC (.put (ini 0 (id * 4096 + d))) else { noC .now with out := 4 }), clkA X B]) := by
  cases may with
  | false => exact (put_no1 X B id d).mono fun v Bs h => by rw [if_neg (fun g => by cases g.1)]; exact h
  | true =>
    by_cases h : id ≤ 1125899906842624
    · exact (put_yes X B id d hid h (hd rfl)).mono fun v Bs g => by rw [if_pos ⟨rfl, h⟩]; exact g
    · exact (put_no2 X B id d (by omega)).mono fun v Bs g => by rw [if_neg (fun q => h q.2)]; exact g

theorem ask_if {id d : Int} : askC id d = if (decide (1 ≤ d) && decide (d ≤ 4095)) = true ∧ id ≤ 1125899906842624 then noC (.put (ini 0 (id * 4096 + d))) else { noC .now with out := 4 } := by
  unfold askC
  by_cases h : d < 1 ∨ 4095 < d ∨ 1125899906842624 < id
  · rw [if_pos h, if_neg (by simp; omega)]
  · rw [if_neg h, if_pos (by simp; omega)]
theorem cut_if {id : Int} : cutC id = if true = true ∧ id ≤ 1125899906842624 then noC (.put (ini 0 (id * 4096 + 0))) else { noC .now with out := 4 } := by
  unfold cutC
  by_cases h : 1125899906842624 < id
  · rw [if_pos h, if_neg (fun g => absurd g.2 (by omega))]
  · rw [if_neg h, if_pos ⟨rfl, by omega⟩, Int.add_zero]

set_option maxRecDepth 8000 in
set_option maxHeartbeats 1000000 in
theorem Ask_spec (X : KX) (B : CB) (id d : Int) (hid : 0 ≤ id) : FnS Tryz.prog 12 [ptr X.c 0, U64 id, I64 d] [clkA X B] (fun u Bs => ∃ p, u = ptr p 0 ∧ Bs = [opK X B p ((askC id d)), clkA X B]) := by
 refine fn_body Tryz.func12 rfl rfl rfl ?_
 intro W0 R
 simp only [List.zipIdx_cons, List.zipIdx_nil, List.map_cons, List.map_nil, Nat.zero_add, Nat.reduceAdd, List.cons_append, List.nil_append]
 refine g_seq ?_
 refine g_region ?_
 refine gl_v rfl (o_assign rfl) ?_
 refine gl_nil ?_
 refine ge_then ?_
 refine g_seq ?_
 refine g_region ?_
 refine gl_v rfl (o_move rfl) ?_
 refine gl_v rfl (o_move rfl) ?_
 refine gl_v rfl (o_move rfl) ?_
 refine gl_v rfl (o_move rfl) ?_
 refine gl_v rfl (o_geq rfl rfl) ?_
 refine gl_v rfl (o_move rfl) ?_
 refine gl_join (d := 15) 3 (.bool (decide (1 ≤ d) && decide (d ≤ 4095))) ?_ (fun jk15 => ?_)
 rotate_left
 ·
  refine gl_g rfl rfl (fun hc1 => ?_) (fun hc1 => ?_) rfl
  ·
   have hc1' := hc1
   first | replace hc1' := of_decide_eq_true hc1' | replace hc1' := lt_f hc1' | replace hc1' := le_f hc1' | replace hc1' := dec_f hc1' | replace hc1' := nlt_t hc1' | replace hc1' := nle_t hc1' | replace hc1' := ndec_t hc1' | replace hc1' := ndec_f hc1' | replace hc1' := nn_t hc1' | replace hc1' := nn_f hc1' | skip
   refine gl_v rfl (o_move rfl) ?_
   refine gl_gT rfl rfl hc1 ?_
   refine gl_v rfl (o_leq rfl rfl) ?_
   refine gl_v rfl (o_pickT hc1 rfl rfl) ?_
   first | exact jk15 _ (KeepS.top (by repeat (first | exact KeepS.refl _ | refine KeepS.push ?_ rfl)) (jval (by first | rfl | (simp [hc1, ]; done) | simp_all))) | exact gl_imp (To.sat (by repeat (first | exact .nil | exact .done .refl | (apply To.cons; · (repeat (first | exact .head | apply Sel.tail))) | exact .done (by repeat (first | exact .refl | apply Drop.skip))))) (jk15 _ (KeepS.top (by repeat (first | exact KeepS.refl _ | refine KeepS.push ?_ rfl)) (jval (by first | rfl | (simp [hc1, ]; done) | simp_all))))
  ·
   have hc1' := hc1
   first | replace hc1' := of_decide_eq_true hc1' | replace hc1' := lt_f hc1' | replace hc1' := le_f hc1' | replace hc1' := dec_f hc1' | replace hc1' := nlt_t hc1' | replace hc1' := nle_t hc1' | replace hc1' := ndec_t hc1' | replace hc1' := ndec_f hc1' | replace hc1' := nn_t hc1' | replace hc1' := nn_f hc1' | skip
   simp only [putO]
   refine gl_gF rfl rfl hc1 rfl ?_
   refine gl_v rfl (o_pickF hc1 rfl rfl) ?_
   first | exact jk15 _ (KeepS.top (by repeat (first | exact KeepS.refl _ | refine KeepS.push ?_ rfl)) (jval (by first | rfl | (simp [hc1, ]; done) | simp_all))) | exact gl_imp (To.sat (by repeat (first | exact .nil | exact .done .refl | (apply To.cons; · (repeat (first | exact .head | apply Sel.tail))) | exact .done (by repeat (first | exact .refl | apply Drop.skip))))) (jk15 _ (KeepS.top (by repeat (first | exact KeepS.refl _ | refine KeepS.push ?_ rfl)) (jval (by first | rfl | (simp [hc1, ]; done) | simp_all))))
 refine gl_c rfl (o_call rfl (put_spec X B id d (decide (1 ≤ d) && decide (d ≤ 4095)) hid (fun h => by simp at h; omega)) (by repeat (first | exact .nil | (apply Part.cons; · (repeat (first | exact .head | apply Sel.tail)))))) ?_
 rintro _ R ⟨_, ⟨p, rfl, rfl⟩, rfl⟩
 try simp only [List.cons_append, List.nil_append]
 refine gl_v rfl (o_assign rfl) ?_
 refine gl_nil ?_
 refine ge_then ?_
 refine g_ret ?_
 refine ret1 (.inl rfl) rfl rfl [opK X B p (askC id d), clkA X B] (⟨p, rfl, rfl⟩) (by rw [ask_if]; exact (To.sat (by repeat (first | exact .nil | exact .done .refl | (apply To.cons; · (repeat (first | exact .head | apply Sel.tail))) | exact .done (by repeat (first | exact .refl | apply Drop.skip))))))

theorem put_cut (X : KX) (B : CB) (id : Int) (hid : 0 ≤ id) : FnS Tryz.prog 40 [ptr X.c 0, U64 id, I64 0, .bool true] [clkA X B] (fun u Bs => ∃ p, u = ptr p 0 ∧ Bs = [opK X B p (cutC id), clkA X B]) := (put_spec X B id 0 true hid (fun _ => by decide)).mono fun v Bs h => by rw [cut_if]; exact h

set_option maxRecDepth 8000 in
set_option maxHeartbeats 1000000 in
theorem Cancel_spec (X : KX) (B : CB) (id : Int) (hid : 0 ≤ id) : FnS Tryz.prog 16 [ptr X.c 0, U64 id] [clkA X B] (fun u Bs => ∃ p, u = ptr p 0 ∧ Bs = [opK X B p (cutC id), clkA X B]) := by
 refine fn_body Tryz.func16 rfl rfl rfl ?_
 intro W0 R
 simp only [List.zipIdx_cons, List.zipIdx_nil, List.map_cons, List.map_nil, Nat.zero_add, Nat.reduceAdd, List.cons_append, List.nil_append]
 refine g_seq ?_
 refine g_region ?_
 refine gl_v rfl (o_assign rfl) ?_
 refine gl_nil ?_
 refine ge_then ?_
 refine g_seq ?_
 refine g_region ?_
 refine gl_v rfl (o_move rfl) ?_
 refine gl_v rfl (o_move rfl) ?_
 refine gl_c rfl (o_call rfl (put_cut X B id hid) (by repeat (first | exact .nil | (apply Part.cons; · (repeat (first | exact .head | apply Sel.tail)))))) ?_
 rintro _ R ⟨_, ⟨p, rfl, rfl⟩, rfl⟩
 try simp only [List.cons_append, List.nil_append]
 refine gl_v rfl (o_assign rfl) ?_
 refine gl_nil ?_
 refine ge_then ?_
 refine g_ret ?_
 refine ret1 (.inl rfl) rfl rfl _ (⟨p, rfl, rfl⟩) (To.sat (by repeat (first | exact .nil | exact .done .refl | (apply To.cons; · (repeat (first | exact .head | apply Sel.tail))) | exact .done (by repeat (first | exact .refl | apply Drop.skip)))))

set_option maxRecDepth 8000 in
set_option maxHeartbeats 1000000 in
theorem KNow_spec (X : KX) (B : CB) : FnS Tryz.prog 29 [ptr X.c 0] [clkA X B] (fun u Bs => ∃ p, u = ptr p 0 ∧ Bs = [opK X B p (nowC), clkA X B]) := by
 refine fn_body Tryz.func29 rfl rfl rfl ?_
 intro W0 R
 simp only [List.zipIdx_cons, List.zipIdx_nil, List.map_cons, List.map_nil, Nat.zero_add, Nat.reduceAdd, List.cons_append, List.nil_append]
 refine g_seq ?_
 refine g_region ?_
 refine gl_v rfl (o_assign rfl) ?_
 refine gl_nil ?_
 refine ge_then ?_
 refine g_seq ?_
 refine g_region ?_
 refine gl_v rfl (o_move rfl) ?_
 refine gl_v rfl (o_build rfl rfl) ?_
 refine gl_n rfl (o_boxA rfl) ?_
 rintro _ _ ⟨b7, rfl, rfl⟩
 refine gl_n rfl (o_alloc) ?_
 rintro _ _ ⟨b3, rfl, rfl⟩
 first | refine gl_u (o_store rfl rfl rfl rfl) ?_ | refine gl_u (o_storeS rfl rfl rfl (by first | assumption | omega | simp)) ?_
 refine gl_nil ?_
 refine ge_then ?_
 refine g_seq ?_
 refine g_treeM [8, 9, 10] [9] (.stab 0 (.stab 1 (.stab 2 (.stab 3 (.stab 4 (.stab 5 (.stab 6 (.stab 7 (.eff 8 (.eff 9 (.eff 10 .nil .nil) .nil) (.eff 9 (.eff 8 (.eff 10 .nil .nil) .nil) .nil)))))))))) [clkA X B] mixed (by kernel_rfl) ?_
 refine gt_vs rfl .none rfl (o_move rfl) (To.sat (by repeat (first | exact .nil | exact .done .refl | (apply To.cons; · (repeat (first | exact .head | apply Sel.tail))) | exact .done (by repeat (first | exact .refl | apply Drop.skip))))) ?_
 refine gt_vs rfl .none rfl (o_nil rfl) (To.sat (by repeat (first | exact .nil | exact .done .refl | (apply To.cons; · (repeat (first | exact .head | apply Sel.tail))) | exact .done (by repeat (first | exact .refl | apply Drop.skip))))) ?_
 first | refine gt_vs rfl .none rfl (o_fldS rfl) (To.sat (by repeat (first | exact .nil | exact .done .refl | (apply To.cons; · (repeat (first | exact .head | apply Sel.tail))) | exact .done (by repeat (first | exact .refl | apply Drop.skip))))) ?_ | refine gt_vs rfl .none rfl (o_fld rfl) (To.sat (by repeat (first | exact .nil | exact .done .refl | (apply To.cons; · (repeat (first | exact .head | apply Sel.tail))) | exact .done (by repeat (first | exact .refl | apply Drop.skip))))) ?_
 first | refine gt_vs rfl .none rfl (o_load rfl rfl) (To.sat (by repeat (first | exact .nil | exact .done .refl | (apply To.cons; · (repeat (first | exact .head | apply Sel.tail))) | exact .done (by repeat (first | exact .refl | apply Drop.skip))))) ?_ | refine gt_vs rfl .none rfl (o_loadS rfl rfl) (To.sat (by repeat (first | exact .nil | exact .done .refl | (apply To.cons; · (repeat (first | exact .head | apply Sel.tail))) | exact .done (by repeat (first | exact .refl | apply Drop.skip))))) ?_ | refine gt_vs rfl .none rfl (o_loadC rfl) (To.sat (by repeat (first | exact .nil | exact .done .refl | (apply To.cons; · (repeat (first | exact .head | apply Sel.tail))) | exact .done (by repeat (first | exact .refl | apply Drop.skip))))) ?_
 refine gt_vs rfl .none rfl (o_move rfl) (To.sat (by repeat (first | exact .nil | exact .done .refl | (apply To.cons; · (repeat (first | exact .head | apply Sel.tail))) | exact .done (by repeat (first | exact .refl | apply Drop.skip))))) ?_
 refine gt_vs rfl .none rfl (o_nil rfl) (To.sat (by repeat (first | exact .nil | exact .done .refl | (apply To.cons; · (repeat (first | exact .head | apply Sel.tail))) | exact .done (by repeat (first | exact .refl | apply Drop.skip))))) ?_
 first | refine gt_vs rfl .none rfl (o_fldS rfl) (To.sat (by repeat (first | exact .nil | exact .done .refl | (apply To.cons; · (repeat (first | exact .head | apply Sel.tail))) | exact .done (by repeat (first | exact .refl | apply Drop.skip))))) ?_ | refine gt_vs rfl .none rfl (o_fld rfl) (To.sat (by repeat (first | exact .nil | exact .done .refl | (apply To.cons; · (repeat (first | exact .head | apply Sel.tail))) | exact .done (by repeat (first | exact .refl | apply Drop.skip))))) ?_
 first | refine gt_vs rfl .none rfl (o_load rfl rfl) (To.sat (by repeat (first | exact .nil | exact .done .refl | (apply To.cons; · (repeat (first | exact .head | apply Sel.tail))) | exact .done (by repeat (first | exact .refl | apply Drop.skip))))) ?_ | refine gt_vs rfl .none rfl (o_loadS rfl rfl) (To.sat (by repeat (first | exact .nil | exact .done .refl | (apply To.cons; · (repeat (first | exact .head | apply Sel.tail))) | exact .done (by repeat (first | exact .refl | apply Drop.skip))))) ?_ | refine gt_vs rfl .none rfl (o_loadC rfl) (To.sat (by repeat (first | exact .nil | exact .done .refl | (apply To.cons; · (repeat (first | exact .head | apply Sel.tail))) | exact .done (by repeat (first | exact .refl | apply Drop.skip))))) ?_
 refine gt_alts ?_ ?_
 ·
  refine gt_c rfl .none rfl (o_call rfl (tLoad_new X.m B.b) (by repeat (first | exact .nil | (apply Part.cons; · (repeat (first | exact .head | apply Sel.tail)))))) ?_
  rintro _ R ⟨_, ⟨τ, rfl, rfl⟩, rfl⟩
  try simp only [List.cons_append, List.nil_append]
  refine ⟨(fun hG => absurd hG (by decide)), ?_⟩
  refine gt_n rfl .none rfl (o_alloc) ?_
  rintro _ _ ⟨b4, rfl, rfl⟩
  refine ⟨(fun _ => (To.sat (by repeat (first | exact .nil | exact .done .refl | (apply To.cons; · (repeat (first | exact .head | apply Sel.tail))) | exact .done (by repeat (first | exact .refl | apply Drop.skip)))))), ?_⟩
  first | refine gt_u rfl .none (o_store rfl rfl rfl rfl) (fun hG => absurd hG (by decide)) ?_ | refine gt_u rfl .none (o_storeS rfl rfl rfl (by first | assumption | omega | simp)) (fun hG => absurd hG (by decide)) ?_
  refine gt_nil ?_
  refine ge_then ?_
  refine g_seq ?_
  refine g_draw [6] [] [(0, .loc), (1, .loc), (2, .loc), (3, .loc), (4, .loc), (5, .loc), (6, .eff)] [cel b3 29 [ptr b7 0], cel b4 101 [ptr τ 0]] mixed (by kernel_rfl) ?_
  first | refine go_v rfl .none rfl (o_load rfl rfl) ?_ | refine go_v rfl .none rfl (o_loadS rfl rfl) ?_ | refine go_v rfl .none rfl (o_loadC rfl) ?_
  refine go_v rfl .none rfl (o_nil rfl) ?_
  first | refine go_v rfl .none rfl (o_fldS rfl) ?_ | refine go_v rfl .none rfl (o_fld rfl) ?_
  first | refine go_v rfl .none rfl (o_load rfl rfl) ?_ | refine go_v rfl .none rfl (o_loadS rfl rfl) ?_ | refine go_v rfl .none rfl (o_loadC rfl) ?_
  refine go_v rfl .none rfl (o_iface Tryz.underlying101 rfl rfl) ?_
  refine go_v rfl .none rfl (o_func rfl rfl) ?_
  refine go_c rfl .none rfl (o_call rfl (Do_load b7 τ (bxK X nilS nilS nilS) X.m B.b _ _ _ rfl 0 0) (by repeat (first | exact .nil | (apply Part.cons; · (repeat (first | exact .head | apply Sel.tail)))))) ?_
  rintro _ R ⟨_, ⟨rfl, rfl⟩, rfl⟩
  try simp only [List.cons_append, List.nil_append]
  refine ⟨(fun hG => absurd hG (by decide)), ?_⟩
  refine go_nil ?_
  refine ge_then ?_
  refine g_seq ?_
  refine g_region ?_
  first | refine gl_v rfl (o_load rfl rfl) ?_ | refine gl_v rfl (o_loadS rfl rfl) ?_ | refine gl_v rfl (o_loadC rfl) ?_
  refine gl_v rfl (o_assign rfl) ?_
  refine gl_nil ?_
  refine ge_then ?_
  refine g_ret ?_
  refine ret1 (.inl rfl) rfl rfl [opK X B b7 nowC, clkA X B] (⟨b7, rfl, rfl⟩) (op_go rfl (ex_close (τ, b3, b4, 0, none, 0, none, 0) trivial (fun h s => Sat.tail (fun h s => Sat.tail (fun h s => Sat.tail (fun h s => Sat.tail (fun h s => tl_nil2 h s) s) s) s) ((To.sat (by repeat (first | exact .nil | exact .done .refl | (apply To.cons; · (repeat (first | exact .head | apply Sel.tail))) | exact .done (by repeat (first | exact .refl | apply Drop.skip))))) h s))))
 ·
  refine gt_n rfl .none rfl (o_alloc) ?_
  rintro _ _ ⟨b4, rfl, rfl⟩
  refine ⟨(fun _ => (To.sat (by repeat (first | exact .nil | exact .done .refl | (apply To.cons; · (repeat (first | exact .head | apply Sel.tail))) | exact .done (by repeat (first | exact .refl | apply Drop.skip)))))), ?_⟩
  refine gt_c rfl .none rfl (o_call rfl (tLoad_new X.m B.b) (by repeat (first | exact .nil | (apply Part.cons; · (repeat (first | exact .head | apply Sel.tail)))))) ?_
  rintro _ R ⟨_, ⟨τ, rfl, rfl⟩, rfl⟩
  try simp only [List.cons_append, List.nil_append]
  refine ⟨(fun hG => absurd hG (by decide)), ?_⟩
  first | refine gt_u rfl .none (o_store rfl rfl rfl rfl) (fun hG => absurd hG (by decide)) ?_ | refine gt_u rfl .none (o_storeS rfl rfl rfl (by first | assumption | omega | simp)) (fun hG => absurd hG (by decide)) ?_
  refine gt_nil ?_
  refine ge_then ?_
  refine g_seq ?_
  refine g_draw [6] [] [(0, .loc), (1, .loc), (2, .loc), (3, .loc), (4, .loc), (5, .loc), (6, .eff)] [cel b3 29 [ptr b7 0], cel b4 101 [ptr τ 0]] mixed (by kernel_rfl) ?_
  first | refine go_v rfl .none rfl (o_load rfl rfl) ?_ | refine go_v rfl .none rfl (o_loadS rfl rfl) ?_ | refine go_v rfl .none rfl (o_loadC rfl) ?_
  refine go_v rfl .none rfl (o_nil rfl) ?_
  first | refine go_v rfl .none rfl (o_fldS rfl) ?_ | refine go_v rfl .none rfl (o_fld rfl) ?_
  first | refine go_v rfl .none rfl (o_load rfl rfl) ?_ | refine go_v rfl .none rfl (o_loadS rfl rfl) ?_ | refine go_v rfl .none rfl (o_loadC rfl) ?_
  refine go_v rfl .none rfl (o_iface Tryz.underlying101 rfl rfl) ?_
  refine go_v rfl .none rfl (o_func rfl rfl) ?_
  refine go_c rfl .none rfl (o_call rfl (Do_load b7 τ (bxK X nilS nilS nilS) X.m B.b _ _ _ rfl 0 0) (by repeat (first | exact .nil | (apply Part.cons; · (repeat (first | exact .head | apply Sel.tail)))))) ?_
  rintro _ R ⟨_, ⟨rfl, rfl⟩, rfl⟩
  try simp only [List.cons_append, List.nil_append]
  refine ⟨(fun hG => absurd hG (by decide)), ?_⟩
  refine go_nil ?_
  refine ge_then ?_
  refine g_seq ?_
  refine g_region ?_
  first | refine gl_v rfl (o_load rfl rfl) ?_ | refine gl_v rfl (o_loadS rfl rfl) ?_ | refine gl_v rfl (o_loadC rfl) ?_
  refine gl_v rfl (o_assign rfl) ?_
  refine gl_nil ?_
  refine ge_then ?_
  refine g_ret ?_
  refine ret1 (.inl rfl) rfl rfl [opK X B b7 nowC, clkA X B] (⟨b7, rfl, rfl⟩) (op_go rfl (ex_close (τ, b3, b4, 0, none, 0, none, 0) trivial (fun h s => Sat.tail (fun h s => Sat.tail (fun h s => Sat.tail (fun h s => Sat.tail (fun h s => tl_nil2 h s) s) s) s) ((To.sat (by repeat (first | exact .nil | exact .done .refl | (apply To.cons; · (repeat (first | exact .head | apply Sel.tail))) | exact .done (by repeat (first | exact .refl | apply Drop.skip))))) h s))))

set_option maxRecDepth 8000 in
set_option maxHeartbeats 1000000 in
theorem Beat_spec (X : KX) (B : CB) (hB : B.n ≤ 64) (w : Wh) (hn : w.now < 3000000000000000000) : FnS Tryz.prog 13 [ptr X.c 0] [clkA X B, wheel X.wp w] (fun u Bs => ∃ p, u = ptr p 0 ∧ Bs = [opK X B p (beatC B w), clkA X B, wheel X.wp w]) := by
 refine fn_body Tryz.func13 rfl rfl rfl ?_
 intro W0 R
 simp only [List.zipIdx_cons, List.zipIdx_nil, List.map_cons, List.map_nil, Nat.zero_add, Nat.reduceAdd, List.cons_append, List.nil_append]
 refine g_seq ?_
 refine g_region ?_
 refine gl_v rfl (o_assign rfl) ?_
 refine gl_nil ?_
 refine ge_then ?_
 refine g_seq ?_
 refine g_region ?_
 refine gl_v rfl (o_move rfl) ?_
 refine gl_v rfl (o_build rfl rfl) ?_
 refine gl_n rfl (o_boxA rfl) ?_
 rintro _ _ ⟨b6, rfl, rfl⟩
 refine gl_v rfl (o_assign rfl) ?_
 refine gl_nil ?_
 refine ge_then ?_
 refine g_seq ?_
 refine g_region ?_
 refine gl_v rfl (o_move rfl) ?_
 refine gl_v rfl (o_move rfl) ?_
 refine gl_v rfl (o_nil rfl) ?_
 first | refine gl_v rfl (o_fldS rfl) ?_ | refine gl_v rfl (o_fld rfl) ?_
 first | refine gl_v rfl (o_load rfl rfl) ?_ | refine gl_v rfl (o_loadS rfl rfl) ?_ | refine gl_v rfl (o_loadC rfl) ?_
 refine gl_imp (Bs := opC b6 _ _ 0 0 (bxK X nilS nilS nilS) :: tlA none 0 [] :: tlA none 0 [] :: clkA X B :: wheel X.wp w :: R) (fun h s => Sat.tail (fun h s => tl_nil2 h s) ((To.sat (by repeat (first | exact .nil | exact .done .refl | (apply To.cons; · (repeat (first | exact .head | apply Sel.tail))) | exact .done (by repeat (first | exact .refl | apply Drop.skip))))) h s)) ?_
 refine gl_c rfl (o_call rfl (take_spec X B b6 _ _ w hn B.n hB none 0 none 0 [] []) (by repeat (first | exact .nil | (apply Part.cons; · (repeat (first | exact .head | apply Sel.tail)))))) ?_
 rintro _ R ⟨_, ⟨rfl, rfl⟩, rfl⟩
 try simp only [List.cons_append, List.nil_append]
 refine gl_nil ?_
 refine ge_then ?_
 refine g_seq ?_
 refine g_region ?_
 refine gl_v rfl (o_move rfl) ?_
 refine gl_v rfl (o_assign rfl) ?_
 refine gl_nil ?_
 refine ge_then ?_
 refine g_ret ?_
 refine ret1 (.inl rfl) rfl rfl [opK X B b6 (beatC B w), clkA X B, wheel X.wp w] (⟨b6, rfl, rfl⟩) (op_go rfl (To.sat (by repeat (first | exact .nil | exact .done .refl | (apply To.cons; · (repeat (first | exact .head | apply Sel.tail))) | exact .done (by repeat (first | exact .refl | apply Drop.skip))))))

set_option maxRecDepth 8000 in
set_option maxHeartbeats 1000000 in
theorem KIds_spec (X : KX) (B : CB) (w : Wh) (hw : WI w) : FnS Tryz.prog 30 [ptr X.c 0] [clkA X B, wheel X.wp w] (fun u Bs => ∃ a' c', u = .slice a' w.T.length c' ∧ Bs = [own (.slice a' w.T.length c') 22 1 w.T.length (w.T.map fun t => U64 t.id), wheel X.wp w, clkA X B]) := by
 refine fn_body Tryz.func30 rfl rfl rfl ?_
 intro W0 R
 simp only [List.zipIdx_cons, List.zipIdx_nil, List.map_cons, List.map_nil, Nat.zero_add, Nat.reduceAdd, List.cons_append, List.nil_append]
 refine g_seq ?_
 refine g_region ?_
 refine gl_v rfl (o_assign rfl) ?_
 refine gl_nil ?_
 refine ge_then ?_
 refine g_seq ?_
 refine g_region ?_
 refine gl_v rfl (o_move rfl) ?_
 refine gl_v rfl (o_nil rfl) ?_
 first | refine gl_v rfl (o_fldS rfl) ?_ | refine gl_v rfl (o_fld rfl) ?_
 first | refine gl_v rfl (o_load rfl rfl) ?_ | refine gl_v rfl (o_loadS rfl rfl) ?_ | refine gl_v rfl (o_loadC rfl) ?_
 refine gl_c rfl (o_call rfl (Ids_spec X.wp w hw.ok (by have := hw.seq; omega)) (by repeat (first | exact .nil | (apply Part.cons; · (repeat (first | exact .head | apply Sel.tail)))))) ?_
 rintro _ R ⟨_, ⟨a', c', rfl, rfl⟩, rfl⟩
 try simp only [List.cons_append, List.nil_append]
 refine gl_v rfl (o_assign rfl) ?_
 refine gl_nil ?_
 refine ge_then ?_
 refine g_ret ?_
 refine ret1 (.inl rfl) rfl rfl _ (⟨_, _, rfl, rfl⟩) (To.sat (by repeat (first | exact .nil | exact .done .refl | (apply To.cons; · (repeat (first | exact .head | apply Sel.tail))) | exact .done (by repeat (first | exact .refl | apply Drop.skip)))))

end Go.Proofs.YtmohikdmdmplaaaGreat.L
