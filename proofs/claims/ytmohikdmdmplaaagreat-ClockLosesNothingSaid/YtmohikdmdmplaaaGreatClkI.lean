/-
  A step of a clock's operation. Own work, printed in part by a program of its own.
-/
import Derived.Test.YtmohikdmdmplaaaGreatClkG
set_option linter.unusedSimpArgs false
set_option linter.unusedVariables false
set_option linter.unusedSectionVars false
namespace Go.Proofs.YtmohikdmdmplaaaGreat.L
open Go.L Go.L.Ring Go.L.Post Go.L.Clk Go.L.Whl

section
variable {P : Program} {f : FuncId} {args : List Value}
theorem fns_sel {ι : Type} {φ : ι → Prop} {l : ι → List Assn} {As R : List Assn} {post : Value → List Assn → Prop} (s : Sel (exA φ l) As R) (h : ∀ x, φ x → FnS P f args (l x ++ R) post) : FnS P f args As post :=
  fun W0 R' w st => fns_ex h W0 R' w (st.imp fun h s0 => by
    obtain ⟨h1, h2, d, rfl, s1, s2⟩ := Sat.split s0
    exact Sat.append (l := exA φ l :: R) d (s.to s1) s2)
/-- in one part -/
def packA (l : List Assn) : Assn := exA (ι := Unit) (fun _ => True) (fun _ => l)
theorem fns_pack {As Cs : List Assn} {V : Value} (h : FnS P f args As (fun u Bs => u = V ∧ Bs = Cs)) : FnS P f args [packA As] (fun u Bs => u = V ∧ Bs = [packA Cs]) :=
  fns_ex fun x _ => by
    rw [List.append_nil]
    refine fun W0 R w s => (h W0 R w s).mono fun _ _ ⟨v, Bs, e, ⟨e2, e3⟩, s⟩ => ⟨v, _, e, ⟨e2, rfl⟩, s.imp fun h s => ?_⟩
    subst e3; exact ex_close () trivial (fun _ s => s) _ s
theorem fns_get {As Cs : List Assn} {A C : Assn} {V : Value} (h : FnS P f args [A, packA As] (fun u Bs => u = V ∧ Bs = [C, packA Cs])) : FnS P f args (A :: As) (fun u Bs => u = V ∧ Bs = C :: Cs) :=
  fun W0 R w s => (h W0 R w (s.imp fun h s => Sat.tail (fun h s => ex_close () trivial (fun h s => s) h s) s)).mono fun _ _ ⟨v, Bs, e, ⟨e2, e3⟩, s⟩ => ⟨v, _, e, ⟨e2, rfl⟩, s.imp fun h s => by
    subst e3; exact Sat.tail (fun h s => by obtain ⟨_, _, s⟩ := ex_open s; exact s) s⟩
theorem fns_put {As Cs : List Assn} {A C : Assn} {V : Value} (h : FnS P f args (A :: As) (fun u Bs => u = V ∧ Bs = C :: Cs)) : FnS P f args [A, packA As] (fun u Bs => u = V ∧ Bs = [packA (C :: Cs)]) :=
  fns_sel (R := [A]) (.tail .head) fun x _ => fun W0 R w s => (h W0 R w (s.imp fun h s => by
    have : Sat (As ++ A :: R) h := by simpa using s
    revert h; intro h _ s2
    obtain ⟨h1, h2, d, rfl, s1, s3⟩ := Sat.split s2
    obtain ⟨h3, h4, d2, rfl, s4, s5⟩ := s3
    refine ⟨h3, join h1 h4, ?_, ?_, s4, ?_⟩
    · obtain ⟨d5, d6⟩ := disj_join'.1 d; exact disj_join'.2 ⟨d5.symm, d2⟩
    · obtain ⟨d5, d6⟩ := disj_join'.1 d; rw [← join_assoc, join_comm d5, join_assoc]
    · obtain ⟨d5, d6⟩ := disj_join'.1 d; exact Sat.append d6 s1 s5)).mono fun _ _ ⟨v, Bs, e, ⟨e2, e3⟩, s⟩ => ⟨v, _, e, ⟨e2, rfl⟩, s.imp fun h s => by
    subst e3; exact ex_close () trivial (fun h s => s) h s⟩
end


def envK (X : KX) (B : CB) (L : List Int) (t : Int) (w : Wh) : Assn := exA (ι := Unit) (fun _ => True) (fun _ => [clkA X B, memA X.m L t, ringA X.r X.m (B.b + 1) B.n, wheel X.wp w])
theorem st_then {p : Nat} (bx : BXT) (T fS F : Nat) (pv : Value) (caps : List Value) [TMeth Tryz.prog T "Step" fS] [TFunc Tryz.prog fS] [TFunc Tryz.prog F] (Xs Ys Zs : List Assn) (A : Assn) (ov : Bool)
    (hO : FnS Tryz.prog 34 [ptr p 0] [A] (fun u Bs => u = .bool ov ∧ Bs = [A]))
    (hS : FnS Tryz.prog fS [pv] Xs (fun u Bs => u = .bool true ∧ Bs = Ys)) (hT : FnS Tryz.prog F caps (opC p (.iface T pv) (fnV F caps) 0 0 bx :: Ys) (fun u Bs => u = .tuple #[] ∧ Bs = A :: Zs)) :
    FnS Tryz.prog 32 [ptr p 0] (opC p (.iface T pv) (fnV F caps) 0 0 bx :: Xs) (fun u Bs => u = .bool ov ∧ Bs = A :: Zs) := by
  have h := pStep_then p bx T fS F pv caps (packA Xs) (packA Ys) (packA (A :: Zs)) ov (fns_pack hS) (fns_put hT) (fns_pack (fns_eq hO (.cons .head .nil) (fun R h s => s)))
  exact fun W0 R w s => (h W0 R w (s.imp fun h s => Sat.tail (fun h s => ex_close () trivial (fun h s => s) h s) s)).mono fun _ _ ⟨v, Bs, e, ⟨e2, e3⟩, s⟩ => ⟨v, _, e, ⟨e2, rfl⟩, s.imp fun h s => by
    subst e3; obtain ⟨_, _, s⟩ := ex_open s; exact s⟩
theorem st_go {p : Nat} (bx : BXT) (T fS : Nat) (pv thn : Value) [TMeth Tryz.prog T "Step" fS] [TFunc Tryz.prog fS] (Xs Ys : List Assn)
    (hS : FnS Tryz.prog fS [pv] Xs (fun u Bs => u = .bool false ∧ Bs = Ys)) :
    FnS Tryz.prog 32 [ptr p 0] (opC p (.iface T pv) thn 0 0 bx :: Xs) (fun u Bs => u = .bool false ∧ Bs = opC p (.iface T pv) thn 0 0 bx :: Ys) :=
  fns_get (pStep_go p bx T fS pv thn (packA Xs) (packA Ys) (fns_pack hS))
theorem opK_run {X : KX} {B : CB} {p : Nat} {co : CO} (h : co.out = 0) : opK X B p co = phK X B p co.cut co.ref co.ph := by unfold opK; rw [if_pos h]
theorem opK_ov {X : KX} {B : CB} {p : Nat} {co : CO} (h : co.out ≠ 0) : opK X B p co = ovK X p co := by unfold opK; rw [if_neg h]
/-- what looks at the common part alone -/
theorem op_look (X : KX) (B : CB) (p : Nat) (co : CO) (hp : co.out = 0 → co.val = 0) (f : FuncId) (V : Value) (h : ∀ (bx : BXT) (x y : Value), FnS Tryz.prog f [ptr p 0] [opC p x y co.out co.val bx] (fun u Bs => u = V ∧ Bs = [opC p x y co.out co.val bx])) :
    FnS Tryz.prog f [ptr p 0] [opK X B p co] (fun u Bs => u = V ∧ Bs = [opK X B p co]) := by
  by_cases ho : co.out = 0
  · rw [opK_run ho]
    have hv := hp ho
    rw [ho, hv] at h
    cases hph : co.ph <;> exact fns_ex (fun x _ => fns_eq (h _ _ _) (.cons .head .nil) (fun R => ex_close x trivial (fun h s => s)))
  · rw [opK_ov ho]
    exact fns_ex (fun x _ => fns_eq (h _ _ _) (.cons .head .nil) (fun R => ex_close x trivial (fun h s => s)))
theorem Over_op (X : KX) (B : CB) (p : Nat) (co : CO) (hp : co.out = 0 → co.val = 0) : FnS Tryz.prog 34 [ptr p 0] [opK X B p co] (fun u Bs => u = .bool co.over ∧ Bs = [opK X B p co]) := op_look X B p co hp _ _ (fun bx x y => pOver_spec p bx x y co.out co.val)
theorem Out_op (X : KX) (B : CB) (p : Nat) (co : CO) (hp : co.out = 0 → co.val = 0) : FnS Tryz.prog 33 [ptr p 0] [opK X B p co] (fun u Bs => u = I64 co.out ∧ Bs = [opK X B p co]) := op_look X B p co hp _ _ (fun bx x y => pOutcome_spec p bx x y co.out co.val)
theorem Val_op (X : KX) (B : CB) (p : Nat) (co : CO) (hp : co.out = 0 → co.val = 0) : FnS Tryz.prog 31 [ptr p 0] [opK X B p co] (fun u Bs => u = U64 co.val ∧ Bs = [opK X B p co]) := op_look X B p co hp _ _ (fun bx x y => pValue_spec p bx x y co.out co.val)
theorem _root_.Go.L.Clk.CI.ri {B : CB} {L : List Int} (h : CI B L) : RI (B.b + 1) B.n L := ⟨h.m1, h.m64, by have := h.len; omega, h.top⟩
theorem pc_ok {o : RO} (h : o.pc ≤ 9) : pcOk o.pc = true := by
  obtain ⟨k, hk⟩ : ∃ k, k = o.pc := ⟨_, rfl⟩
  rw [← hk] at h ⊢
  match k, h with
  | 0, _ | 1, _ | 2, _ | 3, _ | 4, _ | 5, _ | 6, _ | 7, _ | 8, _ | 9, _ => decide
  | k + 10, h => omega

theorem kstep_put_go (X : KX) (B : CB) (p : Nat) (L : List Int) (t : Int) (w : Wh) (hB : CI B L) (hw : WI w) (cut ref : List Int) (co : CO) (o : RO) (hi : OI o) (ho : o.out = 0) (hpc : o.pc ≤ 9) (hov : (goO (B.b + 1) B.n L o).over = false) : FnS Tryz.prog 32 [ptr p 0] [phK X B p cut ref (.put o), envK X B L t w] (fun u Bs => u = .bool false ∧ Bs = [opK X B p ⟨.put (goO (B.b + 1) B.n L o), 0, 0, [], cut, ref⟩, envK X B (goL (B.b + 1) B.n L o) (tup t) (w)]) := by
  refine fns_sel .head (fun e _ => ?_)
  obtain ⟨q, c1, c2, c3, a1, k1, a2, k2⟩ := e
  simp only [List.cons_append, List.nil_append]
  refine fns_sel (ι := Unit) (by repeat (first | exact .head | apply Sel.tail)) (fun _ _ => ?_)
  simp only [List.cons_append, List.nil_append]
  have hov0 : o.over = false := by unfold RO.over; rw [ho]; rfl
  have hS := Step_spec q X.r X.m (B.b + 1) B.n L t o hB.ri hi (pc_ok hpc)
  rw [hov, hov0] at hS
  simp only [Bool.false_eq_true, if_false] at hS
  refine fns_eq (st_go (bxK X nilS (tl a1 k1 cut) (tl a2 k2 ref)) 116 _ (ptr q 0) _ [opA q X.r o, cel c1 29 [ptr p 0], cel c2 116 [ptr q 0], clkA X B, memA X.m (L) (t), ringA X.r X.m (B.b + 1) B.n, wheel X.wp w, tlA a1 k1 cut, tlA a2 k2 ref] [opA q X.r (goO (B.b + 1) B.n L o), cel c1 29 [ptr p 0], cel c2 116 [ptr q 0], clkA X B, memA X.m (goL (B.b + 1) B.n L o) (tup t), ringA X.r X.m (B.b + 1) B.n, wheel X.wp w, tlA a1 k1 cut, tlA a2 k2 ref] (fns_eq hS (by repeat (first | exact .nil | (apply Part.cons; · (repeat (first | exact .head | apply Sel.tail))))) (fun R => by simp only [List.cons_append, List.nil_append]; exact (To.sat (by repeat (first | exact .nil | exact .done .refl | (apply To.cons; · (repeat (first | exact .head | apply Sel.tail))) | exact .done (by repeat (first | exact .refl | apply Drop.skip)))))))) (by repeat (first | exact .nil | (apply Part.cons; · (repeat (first | exact .head | apply Sel.tail))))) (fun R => ?_)
  simp only [List.cons_append, List.nil_append]
  refine fun h s => Sat.swap (ex_close () trivial (As := _) (R := opK X B p ⟨.put (goO (B.b + 1) B.n L o), 0, 0, [], cut, ref⟩ :: R) ?_ h s)
  simp only [List.cons_append, List.nil_append]
  refine fun h s => (Sel.from (A := opK X B p ⟨.put (goO (B.b + 1) B.n L o), 0, 0, [], cut, ref⟩) (.tail (.tail (.tail (.tail .head))))) (op_go (co := ⟨.put (goO (B.b + 1) B.n L o), 0, 0, [], cut, ref⟩) rfl (ex_close (q, c1, c2, c3, a1, k1, a2, k2) trivial (To.sat (by repeat (first | exact .nil | exact .done .refl | (apply To.cons; · (repeat (first | exact .head | apply Sel.tail))) | exact .done (by repeat (first | exact .refl | apply Drop.skip)))))) h s)

theorem kstep_put_ov (X : KX) (B : CB) (p : Nat) (L : List Int) (t : Int) (w : Wh) (hB : CI B L) (hw : WI w) (cut ref : List Int) (co : CO) (o : RO) (hi : OI o) (ho : o.out = 0) (hpc : o.pc ≤ 9) (hov : (goO (B.b + 1) B.n L o).over = true) : FnS Tryz.prog 32 [ptr p 0] [phK X B p cut ref (.put o), envK X B L t w] (fun u Bs => u = .bool true ∧ Bs = [opK X B p ⟨.put (goO (B.b + 1) B.n L o), (goO (B.b + 1) B.n L o).out, 0, [], cut, ref⟩, envK X B (goL (B.b + 1) B.n L o) (tup t) (w)]) := by
  refine fns_sel .head (fun e _ => ?_)
  obtain ⟨q, c1, c2, c3, a1, k1, a2, k2⟩ := e
  simp only [List.cons_append, List.nil_append]
  refine fns_sel (ι := Unit) (by repeat (first | exact .head | apply Sel.tail)) (fun _ _ => ?_)
  simp only [List.cons_append, List.nil_append]
  have hov0 : o.over = false := by unfold RO.over; rw [ho]; rfl
  have hS := Step_spec q X.r X.m (B.b + 1) B.n L t o hB.ri hi (pc_ok hpc)
  rw [hov, hov0] at hS
  simp only [Bool.false_eq_true, if_false] at hS
  have ho2 : (goO (B.b + 1) B.n L o).out ≠ 0 := by simpa [RO.over] using hov
  exact fns_eq (st_then (bxK X nilS (tl a1 k1 cut) (tl a2 k2 ref)) 116 _ 63 (ptr q 0) [ptr c1 0, ptr c2 0] [opA q X.r o, cel c1 29 [ptr p 0], cel c2 116 [ptr q 0], clkA X B, memA X.m (L) (t), ringA X.r X.m (B.b + 1) B.n, wheel X.wp w, tlA a1 k1 cut, tlA a2 k2 ref] [opA q X.r (goO (B.b + 1) B.n L o), cel c1 29 [ptr p 0], cel c2 116 [ptr q 0], clkA X B, memA X.m (goL (B.b + 1) B.n L o) (tup t), ringA X.r X.m (B.b + 1) B.n, wheel X.wp w, tlA a1 k1 cut, tlA a2 k2 ref] [clkA X B, memA X.m (goL (B.b + 1) B.n L o) (tup t), ringA X.r X.m (B.b + 1) B.n, wheel X.wp w] (opK X B p ⟨.put (goO (B.b + 1) B.n L o), (goO (B.b + 1) B.n L o).out, 0, [], cut, ref⟩) true
    ((Over_op X B p ⟨.put (goO (B.b + 1) B.n L o), (goO (B.b + 1) B.n L o).out, 0, [], cut, ref⟩ (fun h => absurd h ho2)).mono fun v Bs h => by rw [h.1, h.2]; exact ⟨by simp [CO.over, ho2], rfl⟩)
    (fns_eq hS (by repeat (first | exact .nil | (apply Part.cons; · (repeat (first | exact .head | apply Sel.tail))))) (fun R => by simp only [List.cons_append, List.nil_append]; exact (To.sat (by repeat (first | exact .nil | exact .done .refl | (apply To.cons; · (repeat (first | exact .head | apply Sel.tail))) | exact .done (by repeat (first | exact .refl | apply Drop.skip)))))))
    (fns_eq (put1_spec X B p q c1 c2 _ _ (goO (B.b + 1) B.n L o) (bxK X nilS (tl a1 k1 cut) (tl a2 k2 ref))) (by repeat (first | exact .nil | (apply Part.cons; · (repeat (first | exact .head | apply Sel.tail))))) (fun R => by simp only [List.cons_append, List.nil_append]; exact op_ov ho2 (_, _, none, 0, a1, k1, a2, k2) (fun h s => Sat.tail (fun h s => tl_nil h s) ((To.sat (by repeat (first | exact .nil | exact .done .refl | (apply To.cons; · (repeat (first | exact .head | apply Sel.tail))) | exact .done (by repeat (first | exact .refl | apply Drop.skip))))) h s))))) (by repeat (first | exact .nil | (apply Part.cons; · (repeat (first | exact .head | apply Sel.tail))))) (fun R => by simp only [List.cons_append, List.nil_append]; exact fun h s => Sat.swap (ex_close () trivial (To.sat (by repeat (first | exact .nil | exact .done .refl | (apply To.cons; · (repeat (first | exact .head | apply Sel.tail))) | exact .done (by repeat (first | exact .refl | apply Drop.skip))))) h s))

theorem kstep_take_go (X : KX) (B : CB) (p : Nat) (L : List Int) (t : Int) (w : Wh) (hB : CI B L) (hw : WI w) (cut ref : List Int) (co : CO) (left : Nat) (hl : 1 ≤ left ∧ left ≤ 64) (o : RO) (hi : OI o) (ho : o.out = 0) (hpc : o.pc ≤ 9) (hov : (goO (B.b + 1) B.n L o).over = false) : FnS Tryz.prog 32 [ptr p 0] [phK X B p cut ref (.take left o), envK X B L t w] (fun u Bs => u = .bool false ∧ Bs = [opK X B p ⟨.take left (goO (B.b + 1) B.n L o), 0, 0, [], cut, ref⟩, envK X B (goL (B.b + 1) B.n L o) (tup t) (w)]) := by
  refine fns_sel .head (fun e _ => ?_)
  obtain ⟨q, c1, c2, c3, a1, k1, a2, k2⟩ := e
  simp only [List.cons_append, List.nil_append]
  refine fns_sel (ι := Unit) (by repeat (first | exact .head | apply Sel.tail)) (fun _ _ => ?_)
  simp only [List.cons_append, List.nil_append]
  have hov0 : o.over = false := by unfold RO.over; rw [ho]; rfl
  have hS := Step_spec q X.r X.m (B.b + 1) B.n L t o hB.ri hi (pc_ok hpc)
  rw [hov, hov0] at hS
  simp only [Bool.false_eq_true, if_false] at hS
  refine fns_eq (st_go (bxK X nilS (tl a1 k1 cut) (tl a2 k2 ref)) 116 _ (ptr q 0) _ [opA q X.r o, cel c1 116 [ptr q 0], cel c2 29 [ptr p 0], cel c3 3 [I64 left], clkA X B, memA X.m (L) (t), ringA X.r X.m (B.b + 1) B.n, wheel X.wp w, tlA a1 k1 cut, tlA a2 k2 ref] [opA q X.r (goO (B.b + 1) B.n L o), cel c1 116 [ptr q 0], cel c2 29 [ptr p 0], cel c3 3 [I64 left], clkA X B, memA X.m (goL (B.b + 1) B.n L o) (tup t), ringA X.r X.m (B.b + 1) B.n, wheel X.wp w, tlA a1 k1 cut, tlA a2 k2 ref] (fns_eq hS (by repeat (first | exact .nil | (apply Part.cons; · (repeat (first | exact .head | apply Sel.tail))))) (fun R => by simp only [List.cons_append, List.nil_append]; exact (To.sat (by repeat (first | exact .nil | exact .done .refl | (apply To.cons; · (repeat (first | exact .head | apply Sel.tail))) | exact .done (by repeat (first | exact .refl | apply Drop.skip)))))))) (by repeat (first | exact .nil | (apply Part.cons; · (repeat (first | exact .head | apply Sel.tail))))) (fun R => ?_)
  simp only [List.cons_append, List.nil_append]
  refine fun h s => Sat.swap (ex_close () trivial (As := _) (R := opK X B p ⟨.take left (goO (B.b + 1) B.n L o), 0, 0, [], cut, ref⟩ :: R) ?_ h s)
  simp only [List.cons_append, List.nil_append]
  refine fun h s => (Sel.from (A := opK X B p ⟨.take left (goO (B.b + 1) B.n L o), 0, 0, [], cut, ref⟩) (.tail (.tail (.tail (.tail .head))))) (op_go (co := ⟨.take left (goO (B.b + 1) B.n L o), 0, 0, [], cut, ref⟩) rfl (ex_close (q, c1, c2, c3, a1, k1, a2, k2) trivial (To.sat (by repeat (first | exact .nil | exact .done .refl | (apply To.cons; · (repeat (first | exact .head | apply Sel.tail))) | exact .done (by repeat (first | exact .refl | apply Drop.skip)))))) h s)

theorem kstep_take_no (X : KX) (B : CB) (p : Nat) (L : List Int) (t : Int) (w : Wh) (hB : CI B L) (hw : WI w) (cut ref : List Int) (co : CO) (left : Nat) (hl : 1 ≤ left ∧ left ≤ 64) (o : RO) (hi : OI o) (ho : o.out = 0) (hpc : o.pc ≤ 9) (hov : (goO (B.b + 1) B.n L o).over = true) (h1 : (goO (B.b + 1) B.n L o).out ≠ 1) : FnS Tryz.prog 32 [ptr p 0] [phK X B p cut ref (.take left o), envK X B L t w] (fun u Bs => u = .bool false ∧ Bs = [opK X B p ⟨.tick ((w.now + 1 : Nat) : Int), 0, 0, [], cut, ref⟩, envK X B (goL (B.b + 1) B.n L o) (tup t) (w)]) := by
  refine fns_sel .head (fun e _ => ?_)
  obtain ⟨q, c1, c2, c3, a1, k1, a2, k2⟩ := e
  simp only [List.cons_append, List.nil_append]
  refine fns_sel (ι := Unit) (by repeat (first | exact .head | apply Sel.tail)) (fun _ _ => ?_)
  simp only [List.cons_append, List.nil_append]
  have hov0 : o.over = false := by unfold RO.over; rw [ho]; rfl
  have hS := Step_spec q X.r X.m (B.b + 1) B.n L t o hB.ri hi (pc_ok hpc)
  rw [hov, hov0] at hS
  simp only [Bool.false_eq_true, if_false] at hS
  have ho2 : (goO (B.b + 1) B.n L o).out ≠ 0 := by simpa [RO.over] using hov
  exact fns_eq (st_then (bxK X nilS (tl a1 k1 cut) (tl a2 k2 ref)) 116 _ 67 (ptr q 0) [ptr c1 0, ptr c2 0, ptr c3 0] [opA q X.r o, cel c1 116 [ptr q 0], cel c2 29 [ptr p 0], cel c3 3 [I64 left], clkA X B, memA X.m (L) (t), ringA X.r X.m (B.b + 1) B.n, wheel X.wp w, tlA a1 k1 cut, tlA a2 k2 ref] [opA q X.r (goO (B.b + 1) B.n L o), cel c1 116 [ptr q 0], cel c2 29 [ptr p 0], cel c3 3 [I64 left], clkA X B, memA X.m (goL (B.b + 1) B.n L o) (tup t), ringA X.r X.m (B.b + 1) B.n, wheel X.wp w, tlA a1 k1 cut, tlA a2 k2 ref] [clkA X B, memA X.m (goL (B.b + 1) B.n L o) (tup t), ringA X.r X.m (B.b + 1) B.n, wheel X.wp (w)] (opK X B p ⟨.tick ((w.now + 1 : Nat) : Int), 0, 0, [], cut, ref⟩) false
    ((Over_op X B p ⟨.tick ((w.now + 1 : Nat) : Int), 0, 0, [], cut, ref⟩ (fun _ => rfl)).mono fun v Bs h => h)
    (fns_eq hS (by repeat (first | exact .nil | (apply Part.cons; · (repeat (first | exact .head | apply Sel.tail))))) (fun R => by simp only [List.cons_append, List.nil_append]; exact (To.sat (by repeat (first | exact .nil | exact .done .refl | (apply To.cons; · (repeat (first | exact .head | apply Sel.tail))) | exact .done (by repeat (first | exact .refl | apply Drop.skip)))))))
    (fns_eq (take1_no X B p q c1 c2 c3 left _ _ (goO (B.b + 1) B.n L o) hl w hw a1 k1 a2 k2 cut ref h1) (by repeat (first | exact .nil | (apply Part.cons; · (repeat (first | exact .head | apply Sel.tail))))) (fun R => by simp only [List.cons_append, List.nil_append]; exact op_go (co := ⟨.tick ((w.now + 1 : Nat) : Int), 0, 0, [], cut, ref⟩) rfl (To.sat (by repeat (first | exact .nil | exact .done .refl | (apply To.cons; · (repeat (first | exact .head | apply Sel.tail))) | exact .done (by repeat (first | exact .refl | apply Drop.skip)))))))) (by repeat (first | exact .nil | (apply Part.cons; · (repeat (first | exact .head | apply Sel.tail))))) (fun R => by simp only [List.cons_append, List.nil_append]; exact fun h s => Sat.swap (ex_close () trivial (To.sat (by repeat (first | exact .nil | exact .done .refl | (apply To.cons; · (repeat (first | exact .head | apply Sel.tail))) | exact .done (by repeat (first | exact .refl | apply Drop.skip))))) h s))

theorem kstep_take_yes (X : KX) (B : CB) (p : Nat) (L : List Int) (t : Int) (w : Wh) (hB : CI B L) (hw : WI w) (cut ref : List Int) (co : CO) (left : Nat) (hl : 1 ≤ left ∧ left ≤ 64) (o : RO) (hi : OI o) (ho : o.out = 0) (hpc : o.pc ≤ 9) (hov : (goO (B.b + 1) B.n L o).over = true) (h1 : (goO (B.b + 1) B.n L o).out = 1) (hv0 : 0 ≤ (goO (B.b + 1) B.n L o).value) (hv1 : (goO (B.b + 1) B.n L o).value ≤ 18446744073709551615) (hcu : cut.length ≤ 1000) (hre : ref.length ≤ 1000) : FnS Tryz.prog 32 [ptr p 0] [phK X B p cut ref (.take left o), envK X B L t w] (fun u Bs => u = .bool false ∧ Bs = [opK X B p ⟨nextT (left - 1) (askW (goO (B.b + 1) B.n L o).value w), 0, 0, [], cut ++ askCut (goO (B.b + 1) B.n L o).value w, ref ++ askRef (goO (B.b + 1) B.n L o).value w⟩, envK X B (goL (B.b + 1) B.n L o) (tup t) (askW (goO (B.b + 1) B.n L o).value w)]) := by
  refine fns_sel .head (fun e _ => ?_)
  obtain ⟨q, c1, c2, c3, a1, k1, a2, k2⟩ := e
  simp only [List.cons_append, List.nil_append]
  refine fns_sel (ι := Unit) (by repeat (first | exact .head | apply Sel.tail)) (fun _ _ => ?_)
  simp only [List.cons_append, List.nil_append]
  have hov0 : o.over = false := by unfold RO.over; rw [ho]; rfl
  have hS := Step_spec q X.r X.m (B.b + 1) B.n L t o hB.ri hi (pc_ok hpc)
  rw [hov, hov0] at hS
  simp only [Bool.false_eq_true, if_false] at hS
  have ho2 : (goO (B.b + 1) B.n L o).out ≠ 0 := by simpa [RO.over] using hov
  exact fns_eq (st_then (bxK X nilS (tl a1 k1 cut) (tl a2 k2 ref)) 116 _ 67 (ptr q 0) [ptr c1 0, ptr c2 0, ptr c3 0] [opA q X.r o, cel c1 116 [ptr q 0], cel c2 29 [ptr p 0], cel c3 3 [I64 left], clkA X B, memA X.m (L) (t), ringA X.r X.m (B.b + 1) B.n, wheel X.wp w, tlA a1 k1 cut, tlA a2 k2 ref] [opA q X.r (goO (B.b + 1) B.n L o), cel c1 116 [ptr q 0], cel c2 29 [ptr p 0], cel c3 3 [I64 left], clkA X B, memA X.m (goL (B.b + 1) B.n L o) (tup t), ringA X.r X.m (B.b + 1) B.n, wheel X.wp w, tlA a1 k1 cut, tlA a2 k2 ref] [clkA X B, memA X.m (goL (B.b + 1) B.n L o) (tup t), ringA X.r X.m (B.b + 1) B.n, wheel X.wp (askW (goO (B.b + 1) B.n L o).value w)] (opK X B p ⟨nextT (left - 1) (askW (goO (B.b + 1) B.n L o).value w), 0, 0, [], cut ++ askCut (goO (B.b + 1) B.n L o).value w, ref ++ askRef (goO (B.b + 1) B.n L o).value w⟩) false
    ((Over_op X B p ⟨nextT (left - 1) (askW (goO (B.b + 1) B.n L o).value w), 0, 0, [], cut ++ askCut (goO (B.b + 1) B.n L o).value w, ref ++ askRef (goO (B.b + 1) B.n L o).value w⟩ (fun _ => rfl)).mono fun v Bs h => h)
    (fns_eq hS (by repeat (first | exact .nil | (apply Part.cons; · (repeat (first | exact .head | apply Sel.tail))))) (fun R => by simp only [List.cons_append, List.nil_append]; exact (To.sat (by repeat (first | exact .nil | exact .done .refl | (apply To.cons; · (repeat (first | exact .head | apply Sel.tail))) | exact .done (by repeat (first | exact .refl | apply Drop.skip)))))))
    (fns_eq (take1_yes X B p q c1 c2 c3 left _ _ (goO (B.b + 1) B.n L o) hl w hw a1 k1 a2 k2 cut ref h1 hv0 hv1 hcu hre (by rw [askW_now]; exact hw.now)) (by repeat (first | exact .nil | (apply Part.cons; · (repeat (first | exact .head | apply Sel.tail))))) (fun R => by simp only [List.cons_append, List.nil_append]; exact op_go (co := ⟨nextT (left - 1) (askW (goO (B.b + 1) B.n L o).value w), 0, 0, [], cut ++ askCut (goO (B.b + 1) B.n L o).value w, ref ++ askRef (goO (B.b + 1) B.n L o).value w⟩) rfl (To.sat (by repeat (first | exact .nil | exact .done .refl | (apply To.cons; · (repeat (first | exact .head | apply Sel.tail))) | exact .done (by repeat (first | exact .refl | apply Drop.skip)))))))) (by repeat (first | exact .nil | (apply Part.cons; · (repeat (first | exact .head | apply Sel.tail))))) (fun R => by simp only [List.cons_append, List.nil_append]; exact fun h s => Sat.swap (ex_close () trivial (To.sat (by repeat (first | exact .nil | exact .done .refl | (apply To.cons; · (repeat (first | exact .head | apply Sel.tail))) | exact .done (by repeat (first | exact .refl | apply Drop.skip))))) h s))

theorem kstep_now (X : KX) (B : CB) (p : Nat) (L : List Int) (t : Int) (w : Wh) (hB : CI B L) (hw : WI w) (cut ref : List Int) (co : CO) : FnS Tryz.prog 32 [ptr p 0] [phK X B p cut ref (.now), envK X B L t w] (fun u Bs => u = .bool true ∧ Bs = [opK X B p ⟨.now, 1, L.getD B.b 0, [], cut, ref⟩, envK X B (L) (tup t) (w)]) := by
  have hlb : B.b < L.length := by have := hB.len; omega
  refine fns_sel .head (fun e _ => ?_)
  obtain ⟨q, c1, c2, c3, a1, k1, a2, k2⟩ := e
  simp only [List.cons_append, List.nil_append]
  refine fns_sel (ι := Unit) (by repeat (first | exact .head | apply Sel.tail)) (fun _ _ => ?_)
  simp only [List.cons_append, List.nil_append]
  exact fns_eq (st_then (bxK X nilS (tl a1 k1 cut) (tl a2 k2 ref)) 101 _ 53 (ptr q 0) [ptr c1 0, ptr c2 0] [tLoad q X.m B.b, cel c1 29 [ptr p 0], cel c2 101 [ptr q 0], clkA X B, memA X.m L (t), ringA X.r X.m (B.b + 1) B.n, wheel X.wp w, tlA a1 k1 cut, tlA a2 k2 ref] [tDone q (L.getD B.b 0) true, cel c1 29 [ptr p 0], cel c2 101 [ptr q 0], clkA X B, memA X.m L (tup t), ringA X.r X.m (B.b + 1) B.n, wheel X.wp w, tlA a1 k1 cut, tlA a2 k2 ref] [clkA X B, memA X.m L (tup t), ringA X.r X.m (B.b + 1) B.n, wheel X.wp w] (opK X B p ⟨.now, 1, L.getD B.b 0, [], cut, ref⟩) true
    ((Over_op X B p ⟨.now, 1, L.getD B.b 0, [], cut, ref⟩ (fun h => by cases h)).mono fun v Bs h => h)
    (fns_eq (tStep_load q X.m B.b L t hlb) (by repeat (first | exact .nil | (apply Part.cons; · (repeat (first | exact .head | apply Sel.tail))))) (fun R => by simp only [List.cons_append, List.nil_append]; exact (To.sat (by repeat (first | exact .nil | exact .done .refl | (apply To.cons; · (repeat (first | exact .head | apply Sel.tail))) | exact .done (by repeat (first | exact .refl | apply Drop.skip)))))))
    (fns_eq (now1_spec X B p q c1 c2 _ _ (L.getD B.b 0) true (bxK X nilS (tl a1 k1 cut) (tl a2 k2 ref))) (by repeat (first | exact .nil | (apply Part.cons; · (repeat (first | exact .head | apply Sel.tail))))) (fun R => by simp only [List.cons_append, List.nil_append]; exact op_ov (co := ⟨.now, 1, L.getD B.b 0, [], cut, ref⟩) (show (1 : Int) ≠ 0 by decide) (_, _, none, 0, a1, k1, a2, k2) (fun h s => Sat.tail (fun h s => tl_nil h s) ((To.sat (by repeat (first | exact .nil | exact .done .refl | (apply To.cons; · (repeat (first | exact .head | apply Sel.tail))) | exact .done (by repeat (first | exact .refl | apply Drop.skip))))) h s))))) (by repeat (first | exact .nil | (apply Part.cons; · (repeat (first | exact .head | apply Sel.tail))))) (fun R => by simp only [List.cons_append, List.nil_append]; exact fun h s => Sat.swap (ex_close () trivial (To.sat (by repeat (first | exact .nil | exact .done .refl | (apply To.cons; · (repeat (first | exact .head | apply Sel.tail))) | exact .done (by repeat (first | exact .refl | apply Drop.skip))))) h s))

theorem kstep_tick (X : KX) (B : CB) (p : Nat) (L : List Int) (t : Int) (w : Wh) (hB : CI B L) (hw : WI w) (cut ref : List Int) (co : CO) (v : Int) : FnS Tryz.prog 32 [ptr p 0] [phK X B p cut ref (.tick v), envK X B L t w] (fun u Bs => u = .bool true ∧ Bs = [opK X B p ⟨.tick v, 1, 0, (dueL w).map (·.id), cut, ref⟩, envK X B (L.set B.b v) (tup t) (tickR w)]) := by
  have hlb : B.b < L.length := by have := hB.len; omega
  refine fns_sel .head (fun e _ => ?_)
  obtain ⟨q, c1, c2, c3, a1, k1, a2, k2⟩ := e
  simp only [List.cons_append, List.nil_append]
  refine fns_sel (ι := Unit) (by repeat (first | exact .head | apply Sel.tail)) (fun _ _ => ?_)
  simp only [List.cons_append, List.nil_append]
  exact fns_eq (st_then (bxK X nilS (tl a1 k1 cut) (tl a2 k2 ref)) 101 _ 86 (ptr q 0) [ptr c1 0] [tStore q X.m B.b v, cel c1 29 [ptr p 0], clkA X B, memA X.m (L) (t), ringA X.r X.m (B.b + 1) B.n, wheel X.wp w, tlA a1 k1 cut, tlA a2 k2 ref] [tDone q 0 true, cel c1 29 [ptr p 0], clkA X B, memA X.m (L.set B.b v) (tup t), ringA X.r X.m (B.b + 1) B.n, wheel X.wp w, tlA a1 k1 cut, tlA a2 k2 ref] [clkA X B, memA X.m (L.set B.b v) (tup t), ringA X.r X.m (B.b + 1) B.n, wheel X.wp (tickR w)] (opK X B p ⟨.tick v, 1, 0, (dueL w).map (·.id), cut, ref⟩) true
    ((Over_op X B p ⟨.tick v, 1, 0, (dueL w).map (·.id), cut, ref⟩ (fun h => by cases h)).mono fun v Bs h => h)
    (fns_eq (tStep_store q X.m B.b L t hlb v) (by repeat (first | exact .nil | (apply Part.cons; · (repeat (first | exact .head | apply Sel.tail))))) (fun R => by simp only [List.cons_append, List.nil_append]; exact (To.sat (by repeat (first | exact .nil | exact .done .refl | (apply To.cons; · (repeat (first | exact .head | apply Sel.tail))) | exact .done (by repeat (first | exact .refl | apply Drop.skip)))))))
    (fns_eq (tick1_spec X B p c1 _ _ w hw a1 k1 a2 k2 cut ref) (by repeat (first | exact .nil | (apply Part.cons; · (repeat (first | exact .head | apply Sel.tail))))) (fun R => by simp only [List.cons_append, List.nil_append]; exact (To.sat (by repeat (first | exact .nil | exact .done .refl | (apply To.cons; · (repeat (first | exact .head | apply Sel.tail))) | exact .done (by repeat (first | exact .refl | apply Drop.skip)))))))) (by repeat (first | exact .nil | (apply Part.cons; · (repeat (first | exact .head | apply Sel.tail))))) (fun R => by simp only [List.cons_append, List.nil_append]; exact fun h s => Sat.swap (ex_close () trivial (To.sat (by repeat (first | exact .nil | exact .done .refl | (apply To.cons; · (repeat (first | exact .head | apply Sel.tail))) | exact .done (by repeat (first | exact .refl | apply Drop.skip))))) h s))

/-- a step -/
theorem kstep_spec (X : KX) (B : CB) (p : Nat) (L : List Int) (t : Int) (w : Wh) (co : CO) (hB : CI B L) (hL : LI L) (hw : WI w) (hc : COI co) : FnS Tryz.prog 32 [ptr p 0] [opK X B p co, envK X B L t w] (fun u Bs => u = .bool (goC B L w co).2.2.over ∧ Bs = [opK X B p (goC B L w co).2.2, envK X B (goC B L w co).1 (if co.over then t else tup t) (goC B L w co).2.1]) := by
  obtain ⟨ph, out, val, due, cut, ref⟩ := co
  have hcu : cut.length ≤ 1000 := by have := hc.tot; simp only at this; omega
  have hre : ref.length ≤ 1000 := by have := hc.tot; simp only at this; omega
  by_cases ho : out = 0
  · subst ho
    obtain ⟨hph, hv, hd⟩ := hc.run rfl
    obtain rfl : val = 0 := hv
    obtain rfl : due = [] := hd
    rw [opK_run rfl]
    have eO : (⟨ph, 0, 0, [], cut, ref⟩ : CO).over = false := rfl
    have e1 : goC B L w ⟨ph, 0, 0, [], cut, ref⟩ = stepC B L w ⟨ph, 0, 0, [], cut, ref⟩ := by unfold goC; rw [eO]; rfl
    rw [e1, eO]
    simp only [Bool.false_eq_true, if_false]
    cases ph with
    | put o =>
      obtain ⟨hi, hz, hpc⟩ := hph
      cases hov : (goO (B.b + 1) B.n L o).over with
      | false =>
        have hz2 : (goO (B.b + 1) B.n L o).out = 0 := by simpa [RO.over] using hov
        have := kstep_put_go X B p L t w hB hw cut ref ⟨.now, 0, 0, [], [], []⟩ o hi hz hpc hov
        simp only [stepC, hz2]; exact this
      | true =>
        have hz2 : (goO (B.b + 1) B.n L o).out ≠ 0 := by simpa [RO.over] using hov
        have := kstep_put_ov X B p L t w hB hw cut ref ⟨.now, 0, 0, [], [], []⟩ o hi hz hpc hov
        rw [← hov] at this; exact this
    | now => exact kstep_now X B p L t w hB hw cut ref ⟨.now, 0, 0, [], [], []⟩
    | take left o =>
      obtain ⟨hi, hz, hpc, hl⟩ := hph
      have hi2 := goO_in (b := B.b + 1) (n := B.n) hL hi
      cases hov : (goO (B.b + 1) B.n L o).over with
      | false =>
        have := kstep_take_go X B p L t w hB hw cut ref ⟨.now, 0, 0, [], [], []⟩ left hl o hi hz hpc hov
        simp only [stepC, hov, Bool.false_eq_true, if_false]; exact this
      | true =>
        by_cases h1 : (goO (B.b + 1) B.n L o).out = 1
        · have hv : 0 ≤ (goO (B.b + 1) B.n L o).value ∧ (goO (B.b + 1) B.n L o).value ≤ 18446744073709551615 := by unfold RO.value; rw [if_pos h1]; exact ⟨hi2.v0, hi2.v1⟩
          have := kstep_take_yes X B p L t w hB hw cut ref ⟨.now, 0, 0, [], [], []⟩ left hl o hi hz hpc hov h1 hv.1 hv.2 hcu hre
          simp only [stepC, hov, if_true, h1]; exact this
        · have := kstep_take_no X B p L t w hB hw cut ref ⟨.now, 0, 0, [], [], []⟩ left hl o hi hz hpc hov h1
          simp only [stepC, hov, if_true, h1, if_false]; exact this
    | tick v => exact kstep_tick X B p L t w hB hw cut ref ⟨.now, 0, 0, [], [], []⟩ v
  · have hov : (⟨ph, out, val, due, cut, ref⟩ : CO).over = true := by simp [CO.over, ho]
    have e1 : goC B L w ⟨ph, out, val, due, cut, ref⟩ = (L, w, ⟨ph, out, val, due, cut, ref⟩) := by unfold goC; rw [if_pos hov]
    rw [e1, hov, opK_ov ho]
    simp only [if_true]
    exact fns_ex (fun x _ => fns_eq (pStep_idle p _ _ _ out val ho) (.cons .head .nil) (fun R => ex_close x trivial (fun h s => s)))

end Go.Proofs.YtmohikdmdmplaaaGreat.L
