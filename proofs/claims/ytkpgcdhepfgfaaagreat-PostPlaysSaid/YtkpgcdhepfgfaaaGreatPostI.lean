/-
  A step of a box's operation. Own work, printed in part by a program of its own.
-/
import Derived.Test.YtkpgcdhepfgfaaaGreatPostH
set_option linter.unusedSimpArgs false
set_option linter.unusedVariables false
set_option linter.unusedSectionVars false
namespace Go.Proofs.YtkpgcdhepfgfaaaGreat.L
open Go.L Go.L.Ring Go.L.Post
section
variable {P : Program} {f : FuncId} {args : List Value}
theorem fns_sel {ι : Type} {φ : ι → Prop} {l : ι → List Assn} {As R : List Assn} {post : Value → List Assn → Prop} (s : Sel (exA φ l) As R) (h : ∀ x, φ x → FnS P f args (l x ++ R) post) : FnS P f args As post :=
  fun W0 R' w st => fns_ex h W0 R' w (st.imp fun h s0 => by
    obtain ⟨h1, h2, d, rfl, s1, s2⟩ := Sat.split s0
    exact Sat.append (l := exA φ l :: R) d (s.to s1) s2)
/-- in one part -/
def packA (l : List Assn) : Assn := exA (ι := Unit) (fun _ => True) (fun _ => l)
theorem fns_pack {As Cs : List Assn} {V : Value} (h : FnS P f args As (fun u Bs => u = V ∧ Bs = Cs)) : FnS P f args [packA As] (fun u Bs => u = V ∧ Bs = [packA Cs]) :=
  fns_ex fun x _ => by
    rw [List.append_nil]
    refine fun W0 R w s => (h W0 R w s).mono fun _ _ ⟨v, Bs, e, ⟨e2, e3⟩, s⟩ => ⟨v, _, e, ⟨e2, rfl⟩, s.imp fun h s => ?_⟩
    subst e3; exact ex_close () trivial (fun _ s => s) _ s
theorem fns_get {As Cs : List Assn} {A C : Assn} {V : Value} (h : FnS P f args [A, packA As] (fun u Bs => u = V ∧ Bs = [C, packA Cs])) : FnS P f args (A :: As) (fun u Bs => u = V ∧ Bs = C :: Cs) :=
  fun W0 R w s => (h W0 R w (s.imp fun h s => Sat.tail (fun h s => ex_close () trivial (fun h s => s) h s) s)).mono fun _ _ ⟨v, Bs, e, ⟨e2, e3⟩, s⟩ => ⟨v, _, e, ⟨e2, rfl⟩, s.imp fun h s => by
    subst e3; exact Sat.tail (fun h s => by obtain ⟨_, _, s⟩ := ex_open s; exact s) s⟩
theorem fns_put {As Cs : List Assn} {A C : Assn} {V : Value} (h : FnS P f args (A :: As) (fun u Bs => u = V ∧ Bs = C :: Cs)) : FnS P f args [A, packA As] (fun u Bs => u = V ∧ Bs = [packA (C :: Cs)]) :=
  fns_sel (R := [A]) (.tail .head) fun x _ => fun W0 R w s => (h W0 R w (s.imp fun h s => by
    have : Sat (As ++ A :: R) h := by simpa using s
    revert h; intro h _ s2
    obtain ⟨h1, h2, d, rfl, s1, s3⟩ := Sat.split s2
    obtain ⟨h3, h4, d2, rfl, s4, s5⟩ := s3
    refine ⟨h3, join h1 h4, ?_, ?_, s4, ?_⟩
    · obtain ⟨d5, d6⟩ := disj_join'.1 d; exact disj_join'.2 ⟨d5.symm, d2⟩
    · obtain ⟨d5, d6⟩ := disj_join'.1 d; rw [← join_assoc, join_comm d5, join_assoc]
    · obtain ⟨d5, d6⟩ := disj_join'.1 d; exact Sat.append d6 s1 s5)).mono fun _ _ ⟨v, Bs, e, ⟨e2, e3⟩, s⟩ => ⟨v, _, e, ⟨e2, rfl⟩, s.imp fun h s => by
    subst e3; exact ex_close () trivial (fun h s => s) h s⟩
end
def envA (X : BX) (B : PB) (L : List Int) (t : Int) : Assn := exA (ι := Unit) (fun _ => True) (fun _ => [bxA X B, memA X.m L t, ringA (X.r false) X.m (B.rb false) (B.rn false), ringA (X.r true) X.m (B.rb true) (B.rn true)])
theorem st_then {X : BX} {B : PB} {p : Nat} (T fS F : Nat) (pv : Value) (caps : List Value) [TMeth Tryz.prog T "Step" fS] [TFunc Tryz.prog fS] [TFunc Tryz.prog F] (Xs Ys Zs : List Assn) (po : PO)
    (hS : FnS Tryz.prog fS [pv] Xs (fun u Bs => u = .bool true ∧ Bs = Ys)) (hT : FnS Tryz.prog F caps (opC p (.iface T pv) (fnV F caps) 0 0 X.bx :: Ys) (fun u Bs => u = .tuple #[] ∧ Bs = postA X B p po :: Zs)) :
    FnS Tryz.prog 14 [ptr p 0] (opC p (.iface T pv) (fnV F caps) 0 0 X.bx :: Xs) (fun u Bs => u = .bool po.over ∧ Bs = postA X B p po :: Zs) := by
  have h := pStep_then p X.bx T fS F pv caps (packA Xs) (packA Ys) (packA (postA X B p po :: Zs)) po.over (fns_pack hS) (fns_put hT) (fns_pack (fns_eq (Over_post X B p po) (.cons .head .nil) (fun R h s => s)))
  exact fun W0 R w s => (h W0 R w (s.imp fun h s => Sat.tail (fun h s => ex_close () trivial (fun h s => s) h s) s)).mono fun _ _ ⟨v, Bs, e, ⟨e2, e3⟩, s⟩ => ⟨v, _, e, ⟨e2, rfl⟩, s.imp fun h s => by
    subst e3; obtain ⟨_, _, s⟩ := ex_open s; exact s⟩
theorem st_go {X : BX} {p : Nat} (T fS : Nat) (pv thn : Value) [TMeth Tryz.prog T "Step" fS] [TFunc Tryz.prog fS] (Xs Ys : List Assn)
    (hS : FnS Tryz.prog fS [pv] Xs (fun u Bs => u = .bool false ∧ Bs = Ys)) :
    FnS Tryz.prog 14 [ptr p 0] (opC p (.iface T pv) thn 0 0 X.bx :: Xs) (fun u Bs => u = .bool false ∧ Bs = opC p (.iface T pv) thn 0 0 X.bx :: Ys) :=
  fns_get (pStep_go p X.bx T fS pv thn (packA Xs) (packA Ys) (fns_pack hS))
theorem _root_.Go.L.Post.PI.ri {B : PB} {L : List Int} (h : PI B L) (r : Bool) : RI (B.rb r) (B.rn r) L := let ⟨a, b, c, d⟩ := PI.rb h r; ⟨a, b, c, d⟩

theorem step_see (X : BX) (B : PB) (p : Nat) (L : List Int) (t : Int) (hB : PI B L) (nt : Bool) : FnS Tryz.prog 14 [ptr p 0] [phA X B p (.see nt), envA X B L t] (fun u Bs => u = .bool (if rouses nt (L.getD B.b 0) then ⟨.swp nt (L.getD B.b 0), 0, 0⟩ else ⟨.see nt, 1, 0⟩ : PO).over ∧ Bs = [postA X B p (if rouses nt (L.getD B.b 0) then ⟨.swp nt (L.getD B.b 0), 0, 0⟩ else ⟨.see nt, 1, 0⟩), envA X B (L) (tup t)]) := by
  have hlb : B.b < L.length := by have := hB.len; omega
  have hlb1 : B.b + 1 < L.length := by have := hB.len; omega
  refine fns_sel .head (fun e _ => ?_)
  obtain ⟨τ, cs, co, cf, bl⟩ := e
  simp only [List.cons_append, List.nil_append]
  refine fns_sel (ι := Unit) (by repeat (first | exact .head | apply Sel.tail)) (fun _ _ => ?_)
  simp only [List.cons_append, List.nil_append]
  exact fns_eq (st_then 97 _ 98 (ptr τ 0) [ptr cf 0, ptr cs 0, ptr co 0] [tLoad τ X.m B.b, memA X.m L t, cel cs 97 [ptr τ 0], cel co 42 [ptr p 0], cel cf 50 [frS nt bl], cel bl 39 ((fromL nt).map U64), bxA X B] [tDone τ (L.getD B.b 0) true, memA X.m (L) (tup t), cel cs 97 [ptr τ 0], cel co 42 [ptr p 0], cel cf 50 [frS nt bl], cel bl 39 ((fromL nt).map U64), bxA X B] [memA X.m (L) (tup t), bxA X B] (if rouses nt (L.getD B.b 0) then ⟨.swp nt (L.getD B.b 0), 0, 0⟩ else ⟨.see nt, 1, 0⟩)
    (fns_eq (tStep_load τ X.m B.b L t hlb) (by repeat (first | exact .nil | (apply Part.cons; · (repeat (first | exact .head | apply Sel.tail))))) (fun R => by simp only [List.cons_append, List.nil_append]; exact (To.sat (by repeat (first | exact .nil | exact .done .refl | (apply To.cons; · (repeat (first | exact .head | apply Sel.tail))) | exact .done (by repeat (first | exact .refl | apply Drop.skip)))))))
    (fns_eq (rouse1_spec X B p _ _ nt bl τ cf cs co (L.getD B.b 0) true) (by repeat (first | exact .nil | (apply Part.cons; · (repeat (first | exact .head | apply Sel.tail))))) (fun R => by simp only [List.cons_append, List.nil_append]; exact (To.sat (by repeat (first | exact .nil | exact .done .refl | (apply To.cons; · (repeat (first | exact .head | apply Sel.tail))) | exact .done (by repeat (first | exact .refl | apply Drop.skip)))))))) (by repeat (first | exact .nil | (apply Part.cons; · (repeat (first | exact .head | apply Sel.tail))))) (fun R => by simp only [List.cons_append, List.nil_append]; exact fun h s => Sat.swap (ex_close () trivial (To.sat (by repeat (first | exact .nil | exact .done .refl | (apply To.cons; · (repeat (first | exact .head | apply Sel.tail))) | exact .done (by repeat (first | exact .refl | apply Drop.skip))))) h s))

theorem step_swp (X : BX) (B : PB) (p : Nat) (L : List Int) (t : Int) (hB : PI B L) (nt : Bool) (s : Int) : FnS Tryz.prog 14 [ptr p 0] [phA X B p (.swp nt s), envA X B L t] (fun u Bs => u = .bool (if decide (L.getD B.b 0 = s) then ⟨.swp nt s, 7, 0⟩ else ⟨.see nt, 0, 0⟩ : PO).over ∧ Bs = [postA X B p (if decide (L.getD B.b 0 = s) then ⟨.swp nt s, 7, 0⟩ else ⟨.see nt, 0, 0⟩), envA X B (if L.getD B.b 0 = s then L.set B.b 1 else L) (tup t)]) := by
  have hlb : B.b < L.length := by have := hB.len; omega
  have hlb1 : B.b + 1 < L.length := by have := hB.len; omega
  refine fns_sel .head (fun e _ => ?_)
  obtain ⟨τ, c5, co, cf, bl⟩ := e
  simp only [List.cons_append, List.nil_append]
  refine fns_sel (ι := Unit) (by repeat (first | exact .head | apply Sel.tail)) (fun _ _ => ?_)
  simp only [List.cons_append, List.nil_append]
  exact fns_eq (st_then 97 _ 99 (ptr τ 0) [ptr c5 0, ptr co 0, ptr cf 0] [tSwap τ X.m B.b (s) 1, memA X.m L t, cel c5 97 [ptr τ 0], cel co 42 [ptr p 0], cel cf 50 [frS nt bl], cel bl 39 ((fromL nt).map U64), bxA X B] [tDone τ 0 (decide (L.getD B.b 0 = s)), memA X.m (if L.getD B.b 0 = s then L.set B.b 1 else L) (tup t), cel c5 97 [ptr τ 0], cel co 42 [ptr p 0], cel cf 50 [frS nt bl], cel bl 39 ((fromL nt).map U64), bxA X B] [memA X.m (if L.getD B.b 0 = s then L.set B.b 1 else L) (tup t), bxA X B] (if decide (L.getD B.b 0 = s) then ⟨.swp nt s, 7, 0⟩ else ⟨.see nt, 0, 0⟩)
    (fns_eq (tStep_swap τ X.m B.b L t hlb (s) 1) (by repeat (first | exact .nil | (apply Part.cons; · (repeat (first | exact .head | apply Sel.tail))))) (fun R => by simp only [List.cons_append, List.nil_append]; exact (To.sat (by repeat (first | exact .nil | exact .done .refl | (apply To.cons; · (repeat (first | exact .head | apply Sel.tail))) | exact .done (by repeat (first | exact .refl | apply Drop.skip)))))))
    (fns_eq (rouse11_spec X B p _ _ nt bl τ c5 co cf s (decide (L.getD B.b 0 = s))) (by repeat (first | exact .nil | (apply Part.cons; · (repeat (first | exact .head | apply Sel.tail))))) (fun R => by simp only [List.cons_append, List.nil_append]; exact (To.sat (by repeat (first | exact .nil | exact .done .refl | (apply To.cons; · (repeat (first | exact .head | apply Sel.tail))) | exact .done (by repeat (first | exact .refl | apply Drop.skip)))))))) (by repeat (first | exact .nil | (apply Part.cons; · (repeat (first | exact .head | apply Sel.tail))))) (fun R => by simp only [List.cons_append, List.nil_append]; exact fun h s => Sat.swap (ex_close () trivial (To.sat (by repeat (first | exact .nil | exact .done .refl | (apply To.cons; · (repeat (first | exact .head | apply Sel.tail))) | exact .done (by repeat (first | exact .refl | apply Drop.skip))))) h s))

theorem step_ask (X : BX) (B : PB) (p : Nat) (L : List Int) (t : Int) (hB : PI B L) (v : Int) : FnS Tryz.prog 14 [ptr p 0] [phA X B p (.ask v), envA X B L t] (fun u Bs => u = .bool (if decide (L.getD (B.b + 1) 0 = 0) then ⟨.put true (ini 0 v), 0, 0⟩ else ⟨.ask v, 4, 0⟩ : PO).over ∧ Bs = [postA X B p (if decide (L.getD (B.b + 1) 0 = 0) then ⟨.put true (ini 0 v), 0, 0⟩ else ⟨.ask v, 4, 0⟩), envA X B (if L.getD (B.b + 1) 0 = 0 then L.set (B.b + 1) 1 else L) (tup t)]) := by
  have hlb : B.b < L.length := by have := hB.len; omega
  have hlb1 : B.b + 1 < L.length := by have := hB.len; omega
  refine fns_sel .head (fun e _ => ?_)
  obtain ⟨τ, c6, c5, c2, c3⟩ := e
  simp only [List.cons_append, List.nil_append]
  refine fns_sel (ι := Unit) (by repeat (first | exact .head | apply Sel.tail)) (fun _ _ => ?_)
  simp only [List.cons_append, List.nil_append]
  exact fns_eq (st_then 97 _ 59 (ptr τ 0) [ptr c6 0, ptr c5 0, ptr c2 0, ptr c3 0] [tSwap τ X.m (B.b + 1) (0) 1, memA X.m L t, cel c6 97 [ptr τ 0], cel c5 42 [ptr p 0], cel c2 29 [ptr X.bx 0], cel c3 39 [U64 v], bxA X B] [tDone τ 0 (decide (L.getD (B.b + 1) 0 = 0)), memA X.m (if L.getD (B.b + 1) 0 = 0 then L.set (B.b + 1) 1 else L) (tup t), cel c6 97 [ptr τ 0], cel c5 42 [ptr p 0], cel c2 29 [ptr X.bx 0], cel c3 39 [U64 v], bxA X B] [memA X.m (if L.getD (B.b + 1) 0 = 0 then L.set (B.b + 1) 1 else L) (tup t), bxA X B] (if decide (L.getD (B.b + 1) 0 = 0) then ⟨.put true (ini 0 v), 0, 0⟩ else ⟨.ask v, 4, 0⟩)
    (fns_eq (tStep_swap τ X.m (B.b + 1) L t hlb1 (0) 1) (by repeat (first | exact .nil | (apply Part.cons; · (repeat (first | exact .head | apply Sel.tail))))) (fun R => by simp only [List.cons_append, List.nil_append]; exact (To.sat (by repeat (first | exact .nil | exact .done .refl | (apply To.cons; · (repeat (first | exact .head | apply Sel.tail))) | exact .done (by repeat (first | exact .refl | apply Drop.skip)))))))
    (fns_eq (ask1_spec X B p _ _ τ c6 c5 c2 c3 v (decide (L.getD (B.b + 1) 0 = 0))) (by repeat (first | exact .nil | (apply Part.cons; · (repeat (first | exact .head | apply Sel.tail))))) (fun R => by simp only [List.cons_append, List.nil_append]; exact (To.sat (by repeat (first | exact .nil | exact .done .refl | (apply To.cons; · (repeat (first | exact .head | apply Sel.tail))) | exact .done (by repeat (first | exact .refl | apply Drop.skip)))))))) (by repeat (first | exact .nil | (apply Part.cons; · (repeat (first | exact .head | apply Sel.tail))))) (fun R => by simp only [List.cons_append, List.nil_append]; exact fun h s => Sat.swap (ex_close () trivial (To.sat (by repeat (first | exact .nil | exact .done .refl | (apply To.cons; · (repeat (first | exact .head | apply Sel.tail))) | exact .done (by repeat (first | exact .refl | apply Drop.skip))))) h s))

theorem step_set (X : BX) (B : PB) (p : Nat) (L : List Int) (t : Int) (hB : PI B L) (s : Int) : FnS Tryz.prog 14 [ptr p 0] [phA X B p (.set s), envA X B L t] (fun u Bs => u = .bool (⟨.set s, 1, 0⟩ : PO).over ∧ Bs = [postA X B p (⟨.set s, 1, 0⟩), envA X B (L.set B.b s) (tup t)]) := by
  have hlb : B.b < L.length := by have := hB.len; omega
  have hlb1 : B.b + 1 < L.length := by have := hB.len; omega
  refine fns_sel .head (fun e _ => ?_)
  obtain ⟨τ, c5⟩ := e
  simp only [List.cons_append, List.nil_append]
  refine fns_sel (ι := Unit) (by repeat (first | exact .head | apply Sel.tail)) (fun _ _ => ?_)
  simp only [List.cons_append, List.nil_append]
  exact fns_eq (st_then 97 _ 75 (ptr τ 0) [ptr c5 0] [tStore τ X.m B.b s, memA X.m L t, cel c5 42 [ptr p 0], bxA X B] [tDone τ 0 true, memA X.m (L.set B.b s) (tup t), cel c5 42 [ptr p 0], bxA X B] [memA X.m (L.set B.b s) (tup t), bxA X B] (⟨.set s, 1, 0⟩)
    (fns_eq (tStep_store τ X.m B.b L t hlb s) (by repeat (first | exact .nil | (apply Part.cons; · (repeat (first | exact .head | apply Sel.tail))))) (fun R => by simp only [List.cons_append, List.nil_append]; exact (To.sat (by repeat (first | exact .nil | exact .done .refl | (apply To.cons; · (repeat (first | exact .head | apply Sel.tail))) | exact .done (by repeat (first | exact .refl | apply Drop.skip)))))))
    (fns_eq (set1_spec X B p _ _ τ c5 s) (by repeat (first | exact .nil | (apply Part.cons; · (repeat (first | exact .head | apply Sel.tail))))) (fun R => by simp only [List.cons_append, List.nil_append]; exact (To.sat (by repeat (first | exact .nil | exact .done .refl | (apply To.cons; · (repeat (first | exact .head | apply Sel.tail))) | exact .done (by repeat (first | exact .refl | apply Drop.skip)))))))) (by repeat (first | exact .nil | (apply Part.cons; · (repeat (first | exact .head | apply Sel.tail))))) (fun R => by simp only [List.cons_append, List.nil_append]; exact fun h s => Sat.swap (ex_close () trivial (To.sat (by repeat (first | exact .nil | exact .done .refl | (apply To.cons; · (repeat (first | exact .head | apply Sel.tail))) | exact .done (by repeat (first | exact .refl | apply Drop.skip))))) h s))

theorem step_gone (X : BX) (B : PB) (p : Nat) (L : List Int) (t : Int) (hB : PI B L) : FnS Tryz.prog 14 [ptr p 0] [phA X B p (.gone), envA X B L t] (fun u Bs => u = .bool (⟨.gone, if L.getD B.b 0 = 4 then 1 else 4, 0⟩ : PO).over ∧ Bs = [postA X B p (⟨.gone, if L.getD B.b 0 = 4 then 1 else 4, 0⟩), envA X B (L) (tup t)]) := by
  have hlb : B.b < L.length := by have := hB.len; omega
  have hlb1 : B.b + 1 < L.length := by have := hB.len; omega
  refine fns_sel .head (fun e _ => ?_)
  obtain ⟨τ, c4, c3⟩ := e
  simp only [List.cons_append, List.nil_append]
  refine fns_sel (ι := Unit) (by repeat (first | exact .head | apply Sel.tail)) (fun _ _ => ?_)
  simp only [List.cons_append, List.nil_append]
  exact fns_eq (st_then 97 _ 65 (ptr τ 0) [ptr c4 0, ptr c3 0] [tLoad τ X.m B.b, memA X.m L t, cel c4 97 [ptr τ 0], cel c3 42 [ptr p 0], bxA X B] [tDone τ (L.getD B.b 0) true, memA X.m (L) (tup t), cel c4 97 [ptr τ 0], cel c3 42 [ptr p 0], bxA X B] [memA X.m (L) (tup t), bxA X B] (⟨.gone, if L.getD B.b 0 = 4 then 1 else 4, 0⟩)
    (fns_eq (tStep_load τ X.m B.b L t hlb) (by repeat (first | exact .nil | (apply Part.cons; · (repeat (first | exact .head | apply Sel.tail))))) (fun R => by simp only [List.cons_append, List.nil_append]; exact (To.sat (by repeat (first | exact .nil | exact .done .refl | (apply To.cons; · (repeat (first | exact .head | apply Sel.tail))) | exact .done (by repeat (first | exact .refl | apply Drop.skip)))))))
    (fns_eq (gone1_spec X B p _ _ τ c4 c3 (L.getD B.b 0) true) (by repeat (first | exact .nil | (apply Part.cons; · (repeat (first | exact .head | apply Sel.tail))))) (fun R => by simp only [List.cons_append, List.nil_append]; exact (To.sat (by repeat (first | exact .nil | exact .done .refl | (apply To.cons; · (repeat (first | exact .head | apply Sel.tail))) | exact .done (by repeat (first | exact .refl | apply Drop.skip)))))))) (by repeat (first | exact .nil | (apply Part.cons; · (repeat (first | exact .head | apply Sel.tail))))) (fun R => by simp only [List.cons_append, List.nil_append]; exact fun h s => Sat.swap (ex_close () trivial (To.sat (by repeat (first | exact .nil | exact .done .refl | (apply To.cons; · (repeat (first | exact .head | apply Sel.tail))) | exact .done (by repeat (first | exact .refl | apply Drop.skip))))) h s))

theorem step_stot (X : BX) (B : PB) (p : Nat) (L : List Int) (t : Int) (hB : PI B L) : FnS Tryz.prog 14 [ptr p 0] [phA X B p (.sto true), envA X B L t] (fun u Bs => u = .bool (⟨.look true true (ini 12 0), 0, 0⟩ : PO).over ∧ Bs = [postA X B p (⟨.look true true (ini 12 0), 0, 0⟩), envA X B (L.set B.b (stOf true)) (tup t)]) := by
  have hlb : B.b < L.length := by have := hB.len; omega
  have hlb1 : B.b + 1 < L.length := by have := hB.len; omega
  refine fns_sel .head (fun e _ => ?_)
  obtain ⟨τ, c5, c6, c7, br⟩ := e
  simp only [List.cons_append, List.nil_append]
  refine fns_sel (ι := Unit) (by repeat (first | exact .head | apply Sel.tail)) (fun _ _ => ?_)
  simp only [List.cons_append, List.nil_append]
  exact fns_eq (st_then 97 _ 56 (ptr τ 0) [ptr c5 0, ptr c6 0, ptr c7 0] [tStore τ X.m B.b (stOf true), memA X.m L t, cel c5 42 [ptr p 0], cel c6 39 [U64 (stOf true)], cel c7 95 [rgS true true br], cel br 71 [ptr (X.r true) 0, ptr (X.r false) 0], bxA X B] [tDone τ 0 true, memA X.m (L.set B.b (stOf true)) (tup t), cel c5 42 [ptr p 0], cel c6 39 [U64 (stOf true)], cel c7 95 [rgS true true br], cel br 71 [ptr (X.r true) 0, ptr (X.r false) 0], bxA X B] [memA X.m (L.set B.b (stOf true)) (tup t), bxA X B] (⟨.look true true (ini 12 0), 0, 0⟩)
    (fns_eq (tStep_store τ X.m B.b L t hlb (stOf true)) (by repeat (first | exact .nil | (apply Part.cons; · (repeat (first | exact .head | apply Sel.tail))))) (fun R => by simp only [List.cons_append, List.nil_append]; exact (To.sat (by repeat (first | exact .nil | exact .done .refl | (apply To.cons; · (repeat (first | exact .head | apply Sel.tail))) | exact .done (by repeat (first | exact .refl | apply Drop.skip)))))))
    (fns_eq (settle1_t X B p _ _ c5 c6 c7 br) (by repeat (first | exact .nil | (apply Part.cons; · (repeat (first | exact .head | apply Sel.tail))))) (fun R => by simp only [List.cons_append, List.nil_append]; exact (To.sat (by repeat (first | exact .nil | exact .done .refl | (apply To.cons; · (repeat (first | exact .head | apply Sel.tail))) | exact .done (by repeat (first | exact .refl | apply Drop.skip)))))))) (by repeat (first | exact .nil | (apply Part.cons; · (repeat (first | exact .head | apply Sel.tail))))) (fun R => by simp only [List.cons_append, List.nil_append]; exact fun h s => Sat.swap (ex_close () trivial (To.sat (by repeat (first | exact .nil | exact .done .refl | (apply To.cons; · (repeat (first | exact .head | apply Sel.tail))) | exact .done (by repeat (first | exact .refl | apply Drop.skip))))) h s))

theorem step_stof (X : BX) (B : PB) (p : Nat) (L : List Int) (t : Int) (hB : PI B L) : FnS Tryz.prog 14 [ptr p 0] [phA X B p (.sto false), envA X B L t] (fun u Bs => u = .bool (⟨.look false true (ini 12 0), 0, 0⟩ : PO).over ∧ Bs = [postA X B p (⟨.look false true (ini 12 0), 0, 0⟩), envA X B (L.set B.b (stOf false)) (tup t)]) := by
  have hlb : B.b < L.length := by have := hB.len; omega
  have hlb1 : B.b + 1 < L.length := by have := hB.len; omega
  refine fns_sel .head (fun e _ => ?_)
  obtain ⟨τ, c5, c6, c7, br⟩ := e
  simp only [List.cons_append, List.nil_append]
  refine fns_sel (ι := Unit) (by repeat (first | exact .head | apply Sel.tail)) (fun _ _ => ?_)
  simp only [List.cons_append, List.nil_append]
  exact fns_eq (st_then 97 _ 56 (ptr τ 0) [ptr c5 0, ptr c6 0, ptr c7 0] [tStore τ X.m B.b (stOf false), memA X.m L t, cel c5 42 [ptr p 0], cel c6 39 [U64 (stOf false)], cel c7 95 [rgS false true br], cel br 71 [ptr (X.r true) 0, ptr (X.r false) 0], bxA X B] [tDone τ 0 true, memA X.m (L.set B.b (stOf false)) (tup t), cel c5 42 [ptr p 0], cel c6 39 [U64 (stOf false)], cel c7 95 [rgS false true br], cel br 71 [ptr (X.r true) 0, ptr (X.r false) 0], bxA X B] [memA X.m (L.set B.b (stOf false)) (tup t), bxA X B] (⟨.look false true (ini 12 0), 0, 0⟩)
    (fns_eq (tStep_store τ X.m B.b L t hlb (stOf false)) (by repeat (first | exact .nil | (apply Part.cons; · (repeat (first | exact .head | apply Sel.tail))))) (fun R => by simp only [List.cons_append, List.nil_append]; exact (To.sat (by repeat (first | exact .nil | exact .done .refl | (apply To.cons; · (repeat (first | exact .head | apply Sel.tail))) | exact .done (by repeat (first | exact .refl | apply Drop.skip)))))))
    (fns_eq (settle1_f X B p _ _ c5 c6 c7 br) (by repeat (first | exact .nil | (apply Part.cons; · (repeat (first | exact .head | apply Sel.tail))))) (fun R => by simp only [List.cons_append, List.nil_append]; exact (To.sat (by repeat (first | exact .nil | exact .done .refl | (apply To.cons; · (repeat (first | exact .head | apply Sel.tail))) | exact .done (by repeat (first | exact .refl | apply Drop.skip)))))))) (by repeat (first | exact .nil | (apply Part.cons; · (repeat (first | exact .head | apply Sel.tail))))) (fun R => by simp only [List.cons_append, List.nil_append]; exact fun h s => Sat.swap (ex_close () trivial (To.sat (by repeat (first | exact .nil | exact .done .refl | (apply To.cons; · (repeat (first | exact .head | apply Sel.tail))) | exact .done (by repeat (first | exact .refl | apply Drop.skip))))) h s))

theorem step_more (X : BX) (B : PB) (p : Nat) (L : List Int) (t : Int) (hB : PI B L) (held : Bool) : FnS Tryz.prog 14 [ptr p 0] [phA X B p (.more held), envA X B L t] (fun u Bs => u = .bool (if decide (L.getD B.b 0 = stOf held) then ⟨.more held, 8, 0⟩ else ⟨.more held, 1, 0⟩ : PO).over ∧ Bs = [postA X B p (if decide (L.getD B.b 0 = stOf held) then ⟨.more held, 8, 0⟩ else ⟨.more held, 1, 0⟩), envA X B (if L.getD B.b 0 = stOf held then L.set B.b 1 else L) (tup t)]) := by
  have hlb : B.b < L.length := by have := hB.len; omega
  have hlb1 : B.b + 1 < L.length := by have := hB.len; omega
  refine fns_sel .head (fun e _ => ?_)
  obtain ⟨τ, c4, c1⟩ := e
  simp only [List.cons_append, List.nil_append]
  refine fns_sel (ι := Unit) (by repeat (first | exact .head | apply Sel.tail)) (fun _ _ => ?_)
  simp only [List.cons_append, List.nil_append]
  exact fns_eq (st_then 97 _ 84 (ptr τ 0) [ptr c4 0, ptr c1 0] [tSwap τ X.m B.b (stOf held) 1, memA X.m L t, cel c4 97 [ptr τ 0], cel c1 42 [ptr p 0], bxA X B] [tDone τ 0 (decide (L.getD B.b 0 = stOf held)), memA X.m (if L.getD B.b 0 = stOf held then L.set B.b 1 else L) (tup t), cel c4 97 [ptr τ 0], cel c1 42 [ptr p 0], bxA X B] [memA X.m (if L.getD B.b 0 = stOf held then L.set B.b 1 else L) (tup t), bxA X B] (if decide (L.getD B.b 0 = stOf held) then ⟨.more held, 8, 0⟩ else ⟨.more held, 1, 0⟩)
    (fns_eq (tStep_swap τ X.m B.b L t hlb (stOf held) 1) (by repeat (first | exact .nil | (apply Part.cons; · (repeat (first | exact .head | apply Sel.tail))))) (fun R => by simp only [List.cons_append, List.nil_append]; exact (To.sat (by repeat (first | exact .nil | exact .done .refl | (apply To.cons; · (repeat (first | exact .head | apply Sel.tail))) | exact .done (by repeat (first | exact .refl | apply Drop.skip)))))))
    (fns_eq (look11_spec X B p _ _ held τ c4 c1 (decide (L.getD B.b 0 = stOf held))) (by repeat (first | exact .nil | (apply Part.cons; · (repeat (first | exact .head | apply Sel.tail))))) (fun R => by simp only [List.cons_append, List.nil_append]; exact (To.sat (by repeat (first | exact .nil | exact .done .refl | (apply To.cons; · (repeat (first | exact .head | apply Sel.tail))) | exact .done (by repeat (first | exact .refl | apply Drop.skip)))))))) (by repeat (first | exact .nil | (apply Part.cons; · (repeat (first | exact .head | apply Sel.tail))))) (fun R => by simp only [List.cons_append, List.nil_append]; exact fun h s => Sat.swap (ex_close () trivial (To.sat (by repeat (first | exact .nil | exact .done .refl | (apply To.cons; · (repeat (first | exact .head | apply Sel.tail))) | exact .done (by repeat (first | exact .refl | apply Drop.skip))))) h s))

theorem step_put_f_go (X : BX) (B : PB) (p : Nat) (L : List Int) (t : Int) (hB : PI B L) (o : RO) (hi : OI o) (ho : o.out = 0) (hov : (goO (B.rb false) (B.rn false) L o).over = false) : FnS Tryz.prog 14 [ptr p 0] [phA X B p (.put false o), envA X B L t] (fun u Bs => u = .bool (⟨.put false (goO (B.rb false) (B.rn false) L o), 0, 0⟩ : PO).over ∧ Bs = [postA X B p (⟨.put false (goO (B.rb false) (B.rn false) L o), 0, 0⟩), envA X B (goL (B.rb false) (B.rn false) L o) (tup t)]) := by
  refine fns_sel .head (fun e _ => ?_)
  obtain ⟨τ, c8, co, cf, bl⟩ := e
  simp only [List.cons_append, List.nil_append]
  refine fns_sel (ι := Unit) (by repeat (first | exact .head | apply Sel.tail)) (fun _ _ => ?_)
  simp only [List.cons_append, List.nil_append]
  have hov0 : o.over = false := by unfold RO.over; rw [ho]; rfl
  have hS := Step_spec τ (X.r false) X.m (B.rb false) (B.rn false) L t o (hB.ri false) hi
  rw [hov, hov0] at hS
  simp only [Bool.false_eq_true, if_false] at hS
  refine fns_eq (st_go 93 _ (ptr τ 0) _ [opA τ (X.r false) o, memA X.m (L) (t), ringA (X.r false) X.m (B.rb false) (B.rn false), cel c8 93 [ptr τ 0], cel co 42 [ptr p 0], cel cf 50 [frS false bl], cel bl 39 ((fromL false).map U64), bxA X B] [opA τ (X.r false) (goO (B.rb false) (B.rn false) L o), memA X.m (goL (B.rb false) (B.rn false) L o) (tup t), ringA (X.r false) X.m (B.rb false) (B.rn false), cel c8 93 [ptr τ 0], cel co 42 [ptr p 0], cel cf 50 [frS false bl], cel bl 39 ((fromL false).map U64), bxA X B] (fns_eq hS (by repeat (first | exact .nil | (apply Part.cons; · (repeat (first | exact .head | apply Sel.tail))))) (fun R => by simp only [List.cons_append, List.nil_append]; exact (To.sat (by repeat (first | exact .nil | exact .done .refl | (apply To.cons; · (repeat (first | exact .head | apply Sel.tail))) | exact .done (by repeat (first | exact .refl | apply Drop.skip)))))))) (by repeat (first | exact .nil | (apply Part.cons; · (repeat (first | exact .head | apply Sel.tail))))) (fun R => ?_)
  simp only [List.cons_append, List.nil_append]
  refine fun h s => Sat.swap (ex_close () trivial (As := _) (R := postA X B p ⟨.put false (goO (B.rb false) (B.rn false) L o), 0, 0⟩ :: R) ?_ h s)
  simp only [List.cons_append, List.nil_append]
  refine fun h s => (Sel.from (A := postA X B p ⟨.put false (goO (B.rb false) (B.rn false) L o), 0, 0⟩) (.tail (.tail (.tail (.tail .head))))) (post_go (ex_close (τ, c8, co, cf, bl) trivial (To.sat (by repeat (first | exact .nil | exact .done .refl | (apply To.cons; · (repeat (first | exact .head | apply Sel.tail))) | exact .done (by repeat (first | exact .refl | apply Drop.skip)))))) h s)

theorem step_put_f_ov (X : BX) (B : PB) (p : Nat) (L : List Int) (t : Int) (hB : PI B L) (o : RO) (hi : OI o) (ho : o.out = 0) (hov : (goO (B.rb false) (B.rn false) L o).over = true) : FnS Tryz.prog 14 [ptr p 0] [phA X B p (.put false o), envA X B L t] (fun u Bs => u = .bool (if (goO (B.rb false) (B.rn false) L o).out = 1 then ⟨.see false, 0, 0⟩ else ⟨.put false (goO (B.rb false) (B.rn false) L o), (goO (B.rb false) (B.rn false) L o).out, 0⟩ : PO).over ∧ Bs = [postA X B p (if (goO (B.rb false) (B.rn false) L o).out = 1 then ⟨.see false, 0, 0⟩ else ⟨.put false (goO (B.rb false) (B.rn false) L o), (goO (B.rb false) (B.rn false) L o).out, 0⟩), envA X B (goL (B.rb false) (B.rn false) L o) (tup t)]) := by
  refine fns_sel .head (fun e _ => ?_)
  obtain ⟨τ, c8, co, cf, bl⟩ := e
  simp only [List.cons_append, List.nil_append]
  refine fns_sel (ι := Unit) (by repeat (first | exact .head | apply Sel.tail)) (fun _ _ => ?_)
  simp only [List.cons_append, List.nil_append]
  have hov0 : o.over = false := by unfold RO.over; rw [ho]; rfl
  have hS := Step_spec τ (X.r false) X.m (B.rb false) (B.rn false) L t o (hB.ri false) hi
  rw [hov, hov0] at hS
  simp only [Bool.false_eq_true, if_false] at hS
  have ho2 : (goO (B.rb false) (B.rn false) L o).out ≠ 0 := by simpa [RO.over] using hov
  exact fns_eq (st_then 93 _ 72 (ptr τ 0) [ptr c8 0, ptr co 0, ptr cf 0] [opA τ (X.r false) o, memA X.m (L) (t), ringA (X.r false) X.m (B.rb false) (B.rn false), cel c8 93 [ptr τ 0], cel co 42 [ptr p 0], cel cf 50 [frS false bl], cel bl 39 ((fromL false).map U64), bxA X B] [opA τ (X.r false) (goO (B.rb false) (B.rn false) L o), memA X.m (goL (B.rb false) (B.rn false) L o) (tup t), ringA (X.r false) X.m (B.rb false) (B.rn false), cel c8 93 [ptr τ 0], cel co 42 [ptr p 0], cel cf 50 [frS false bl], cel bl 39 ((fromL false).map U64), bxA X B] [memA X.m (goL (B.rb false) (B.rn false) L o) (tup t), ringA (X.r false) X.m (B.rb false) (B.rn false), bxA X B] (if (goO (B.rb false) (B.rn false) L o).out = 1 then ⟨.see false, 0, 0⟩ else ⟨.put false (goO (B.rb false) (B.rn false) L o), (goO (B.rb false) (B.rn false) L o).out, 0⟩)
    (fns_eq hS (by repeat (first | exact .nil | (apply Part.cons; · (repeat (first | exact .head | apply Sel.tail))))) (fun R => by simp only [List.cons_append, List.nil_append]; exact (To.sat (by repeat (first | exact .nil | exact .done .refl | (apply To.cons; · (repeat (first | exact .head | apply Sel.tail))) | exact .done (by repeat (first | exact .refl | apply Drop.skip)))))))
    (fns_eq (lay1_spec X B p _ _ false bl τ c8 co cf (goO (B.rb false) (B.rn false) L o) ho2) (by repeat (first | exact .nil | (apply Part.cons; · (repeat (first | exact .head | apply Sel.tail))))) (fun R => by simp only [List.cons_append, List.nil_append]; exact (To.sat (by repeat (first | exact .nil | exact .done .refl | (apply To.cons; · (repeat (first | exact .head | apply Sel.tail))) | exact .done (by repeat (first | exact .refl | apply Drop.skip)))))))) (by repeat (first | exact .nil | (apply Part.cons; · (repeat (first | exact .head | apply Sel.tail))))) (fun R => by simp only [List.cons_append, List.nil_append]; exact fun h s => Sat.swap (ex_close () trivial (To.sat (by repeat (first | exact .nil | exact .done .refl | (apply To.cons; · (repeat (first | exact .head | apply Sel.tail))) | exact .done (by repeat (first | exact .refl | apply Drop.skip))))) h s))

theorem step_of_f_go (X : BX) (B : PB) (p : Nat) (L : List Int) (t : Int) (hB : PI B L) (o : RO) (hi : OI o) (ho : o.out = 0) (hov : (goO (B.rb false) (B.rn false) L o).over = false) : FnS Tryz.prog 14 [ptr p 0] [phA X B p (.of false o), envA X B L t] (fun u Bs => u = .bool (⟨.of false (goO (B.rb false) (B.rn false) L o), 0, 0⟩ : PO).over ∧ Bs = [postA X B p (⟨.of false (goO (B.rb false) (B.rn false) L o), 0, 0⟩), envA X B (goL (B.rb false) (B.rn false) L o) (tup t)]) := by
  refine fns_sel .head (fun e _ => ?_)
  obtain ⟨τ, c5, c3⟩ := e
  simp only [List.cons_append, List.nil_append]
  refine fns_sel (ι := Unit) (by repeat (first | exact .head | apply Sel.tail)) (fun _ _ => ?_)
  simp only [List.cons_append, List.nil_append]
  have hov0 : o.over = false := by unfold RO.over; rw [ho]; rfl
  have hS := Step_spec τ (X.r false) X.m (B.rb false) (B.rn false) L t o (hB.ri false) hi
  rw [hov, hov0] at hS
  simp only [Bool.false_eq_true, if_false] at hS
  refine fns_eq (st_go 93 _ (ptr τ 0) _ [opA τ (X.r false) o, memA X.m (L) (t), ringA (X.r false) X.m (B.rb false) (B.rn false), cel c5 42 [ptr p 0], cel c3 93 [ptr τ 0], bxA X B] [opA τ (X.r false) (goO (B.rb false) (B.rn false) L o), memA X.m (goL (B.rb false) (B.rn false) L o) (tup t), ringA (X.r false) X.m (B.rb false) (B.rn false), cel c5 42 [ptr p 0], cel c3 93 [ptr τ 0], bxA X B] (fns_eq hS (by repeat (first | exact .nil | (apply Part.cons; · (repeat (first | exact .head | apply Sel.tail))))) (fun R => by simp only [List.cons_append, List.nil_append]; exact (To.sat (by repeat (first | exact .nil | exact .done .refl | (apply To.cons; · (repeat (first | exact .head | apply Sel.tail))) | exact .done (by repeat (first | exact .refl | apply Drop.skip)))))))) (by repeat (first | exact .nil | (apply Part.cons; · (repeat (first | exact .head | apply Sel.tail))))) (fun R => ?_)
  simp only [List.cons_append, List.nil_append]
  refine fun h s => Sat.swap (ex_close () trivial (As := _) (R := postA X B p ⟨.of false (goO (B.rb false) (B.rn false) L o), 0, 0⟩ :: R) ?_ h s)
  simp only [List.cons_append, List.nil_append]
  refine fun h s => (Sel.from (A := postA X B p ⟨.of false (goO (B.rb false) (B.rn false) L o), 0, 0⟩) (.tail (.tail (.tail (.tail .head))))) (post_go (ex_close (τ, c5, c3) trivial (To.sat (by repeat (first | exact .nil | exact .done .refl | (apply To.cons; · (repeat (first | exact .head | apply Sel.tail))) | exact .done (by repeat (first | exact .refl | apply Drop.skip)))))) h s)

theorem step_of_f_ov (X : BX) (B : PB) (p : Nat) (L : List Int) (t : Int) (hB : PI B L) (o : RO) (hi : OI o) (ho : o.out = 0) (hov : (goO (B.rb false) (B.rn false) L o).over = true) : FnS Tryz.prog 14 [ptr p 0] [phA X B p (.of false o), envA X B L t] (fun u Bs => u = .bool (⟨.of false (goO (B.rb false) (B.rn false) L o), (goO (B.rb false) (B.rn false) L o).out, (goO (B.rb false) (B.rn false) L o).value⟩ : PO).over ∧ Bs = [postA X B p (⟨.of false (goO (B.rb false) (B.rn false) L o), (goO (B.rb false) (B.rn false) L o).out, (goO (B.rb false) (B.rn false) L o).value⟩), envA X B (goL (B.rb false) (B.rn false) L o) (tup t)]) := by
  refine fns_sel .head (fun e _ => ?_)
  obtain ⟨τ, c5, c3⟩ := e
  simp only [List.cons_append, List.nil_append]
  refine fns_sel (ι := Unit) (by repeat (first | exact .head | apply Sel.tail)) (fun _ _ => ?_)
  simp only [List.cons_append, List.nil_append]
  have hov0 : o.over = false := by unfold RO.over; rw [ho]; rfl
  have hS := Step_spec τ (X.r false) X.m (B.rb false) (B.rn false) L t o (hB.ri false) hi
  rw [hov, hov0] at hS
  simp only [Bool.false_eq_true, if_false] at hS
  have ho2 : (goO (B.rb false) (B.rn false) L o).out ≠ 0 := by simpa [RO.over] using hov
  exact fns_eq (st_then 93 _ 76 (ptr τ 0) [ptr c5 0, ptr c3 0] [opA τ (X.r false) o, memA X.m (L) (t), ringA (X.r false) X.m (B.rb false) (B.rn false), cel c5 42 [ptr p 0], cel c3 93 [ptr τ 0], bxA X B] [opA τ (X.r false) (goO (B.rb false) (B.rn false) L o), memA X.m (goL (B.rb false) (B.rn false) L o) (tup t), ringA (X.r false) X.m (B.rb false) (B.rn false), cel c5 42 [ptr p 0], cel c3 93 [ptr τ 0], bxA X B] [memA X.m (goL (B.rb false) (B.rn false) L o) (tup t), ringA (X.r false) X.m (B.rb false) (B.rn false), bxA X B] (⟨.of false (goO (B.rb false) (B.rn false) L o), (goO (B.rb false) (B.rn false) L o).out, (goO (B.rb false) (B.rn false) L o).value⟩)
    (fns_eq hS (by repeat (first | exact .nil | (apply Part.cons; · (repeat (first | exact .head | apply Sel.tail))))) (fun R => by simp only [List.cons_append, List.nil_append]; exact (To.sat (by repeat (first | exact .nil | exact .done .refl | (apply To.cons; · (repeat (first | exact .head | apply Sel.tail))) | exact .done (by repeat (first | exact .refl | apply Drop.skip)))))))
    (fns_eq (of1_spec X B p _ _ τ (X.r false) c5 c3 false (goO (B.rb false) (B.rn false) L o) ho2) (by repeat (first | exact .nil | (apply Part.cons; · (repeat (first | exact .head | apply Sel.tail))))) (fun R => by simp only [List.cons_append, List.nil_append]; exact (To.sat (by repeat (first | exact .nil | exact .done .refl | (apply To.cons; · (repeat (first | exact .head | apply Sel.tail))) | exact .done (by repeat (first | exact .refl | apply Drop.skip)))))))) (by repeat (first | exact .nil | (apply Part.cons; · (repeat (first | exact .head | apply Sel.tail))))) (fun R => by simp only [List.cons_append, List.nil_append]; exact fun h s => Sat.swap (ex_close () trivial (To.sat (by repeat (first | exact .nil | exact .done .refl | (apply To.cons; · (repeat (first | exact .head | apply Sel.tail))) | exact .done (by repeat (first | exact .refl | apply Drop.skip))))) h s))

theorem step_put_t_go (X : BX) (B : PB) (p : Nat) (L : List Int) (t : Int) (hB : PI B L) (o : RO) (hi : OI o) (ho : o.out = 0) (hov : (goO (B.rb true) (B.rn true) L o).over = false) : FnS Tryz.prog 14 [ptr p 0] [phA X B p (.put true o), envA X B L t] (fun u Bs => u = .bool (⟨.put true (goO (B.rb true) (B.rn true) L o), 0, 0⟩ : PO).over ∧ Bs = [postA X B p (⟨.put true (goO (B.rb true) (B.rn true) L o), 0, 0⟩), envA X B (goL (B.rb true) (B.rn true) L o) (tup t)]) := by
  refine fns_sel .head (fun e _ => ?_)
  obtain ⟨τ, c8, co, cf, bl⟩ := e
  simp only [List.cons_append, List.nil_append]
  refine fns_sel (ι := Unit) (by repeat (first | exact .head | apply Sel.tail)) (fun _ _ => ?_)
  simp only [List.cons_append, List.nil_append]
  have hov0 : o.over = false := by unfold RO.over; rw [ho]; rfl
  have hS := Step_spec τ (X.r true) X.m (B.rb true) (B.rn true) L t o (hB.ri true) hi
  rw [hov, hov0] at hS
  simp only [Bool.false_eq_true, if_false] at hS
  refine fns_eq (st_go 93 _ (ptr τ 0) _ [opA τ (X.r true) o, memA X.m (L) (t), ringA (X.r true) X.m (B.rb true) (B.rn true), cel c8 93 [ptr τ 0], cel co 42 [ptr p 0], cel cf 50 [frS true bl], cel bl 39 ((fromL true).map U64), bxA X B] [opA τ (X.r true) (goO (B.rb true) (B.rn true) L o), memA X.m (goL (B.rb true) (B.rn true) L o) (tup t), ringA (X.r true) X.m (B.rb true) (B.rn true), cel c8 93 [ptr τ 0], cel co 42 [ptr p 0], cel cf 50 [frS true bl], cel bl 39 ((fromL true).map U64), bxA X B] (fns_eq hS (by repeat (first | exact .nil | (apply Part.cons; · (repeat (first | exact .head | apply Sel.tail))))) (fun R => by simp only [List.cons_append, List.nil_append]; exact (To.sat (by repeat (first | exact .nil | exact .done .refl | (apply To.cons; · (repeat (first | exact .head | apply Sel.tail))) | exact .done (by repeat (first | exact .refl | apply Drop.skip)))))))) (by repeat (first | exact .nil | (apply Part.cons; · (repeat (first | exact .head | apply Sel.tail))))) (fun R => ?_)
  simp only [List.cons_append, List.nil_append]
  refine fun h s => Sat.swap (ex_close () trivial (As := _) (R := postA X B p ⟨.put true (goO (B.rb true) (B.rn true) L o), 0, 0⟩ :: R) ?_ h s)
  simp only [List.cons_append, List.nil_append]
  refine fun h s => (Sel.from (A := postA X B p ⟨.put true (goO (B.rb true) (B.rn true) L o), 0, 0⟩) (.tail (.tail (.tail (.tail .head))))) (post_go (ex_close (τ, c8, co, cf, bl) trivial (To.sat (by repeat (first | exact .nil | exact .done .refl | (apply To.cons; · (repeat (first | exact .head | apply Sel.tail))) | exact .done (by repeat (first | exact .refl | apply Drop.skip)))))) h s)

theorem step_put_t_ov (X : BX) (B : PB) (p : Nat) (L : List Int) (t : Int) (hB : PI B L) (o : RO) (hi : OI o) (ho : o.out = 0) (hov : (goO (B.rb true) (B.rn true) L o).over = true) : FnS Tryz.prog 14 [ptr p 0] [phA X B p (.put true o), envA X B L t] (fun u Bs => u = .bool (if (goO (B.rb true) (B.rn true) L o).out = 1 then ⟨.see true, 0, 0⟩ else ⟨.put true (goO (B.rb true) (B.rn true) L o), (goO (B.rb true) (B.rn true) L o).out, 0⟩ : PO).over ∧ Bs = [postA X B p (if (goO (B.rb true) (B.rn true) L o).out = 1 then ⟨.see true, 0, 0⟩ else ⟨.put true (goO (B.rb true) (B.rn true) L o), (goO (B.rb true) (B.rn true) L o).out, 0⟩), envA X B (goL (B.rb true) (B.rn true) L o) (tup t)]) := by
  refine fns_sel .head (fun e _ => ?_)
  obtain ⟨τ, c8, co, cf, bl⟩ := e
  simp only [List.cons_append, List.nil_append]
  refine fns_sel (ι := Unit) (by repeat (first | exact .head | apply Sel.tail)) (fun _ _ => ?_)
  simp only [List.cons_append, List.nil_append]
  have hov0 : o.over = false := by unfold RO.over; rw [ho]; rfl
  have hS := Step_spec τ (X.r true) X.m (B.rb true) (B.rn true) L t o (hB.ri true) hi
  rw [hov, hov0] at hS
  simp only [Bool.false_eq_true, if_false] at hS
  have ho2 : (goO (B.rb true) (B.rn true) L o).out ≠ 0 := by simpa [RO.over] using hov
  exact fns_eq (st_then 93 _ 72 (ptr τ 0) [ptr c8 0, ptr co 0, ptr cf 0] [opA τ (X.r true) o, memA X.m (L) (t), ringA (X.r true) X.m (B.rb true) (B.rn true), cel c8 93 [ptr τ 0], cel co 42 [ptr p 0], cel cf 50 [frS true bl], cel bl 39 ((fromL true).map U64), bxA X B] [opA τ (X.r true) (goO (B.rb true) (B.rn true) L o), memA X.m (goL (B.rb true) (B.rn true) L o) (tup t), ringA (X.r true) X.m (B.rb true) (B.rn true), cel c8 93 [ptr τ 0], cel co 42 [ptr p 0], cel cf 50 [frS true bl], cel bl 39 ((fromL true).map U64), bxA X B] [memA X.m (goL (B.rb true) (B.rn true) L o) (tup t), ringA (X.r true) X.m (B.rb true) (B.rn true), bxA X B] (if (goO (B.rb true) (B.rn true) L o).out = 1 then ⟨.see true, 0, 0⟩ else ⟨.put true (goO (B.rb true) (B.rn true) L o), (goO (B.rb true) (B.rn true) L o).out, 0⟩)
    (fns_eq hS (by repeat (first | exact .nil | (apply Part.cons; · (repeat (first | exact .head | apply Sel.tail))))) (fun R => by simp only [List.cons_append, List.nil_append]; exact (To.sat (by repeat (first | exact .nil | exact .done .refl | (apply To.cons; · (repeat (first | exact .head | apply Sel.tail))) | exact .done (by repeat (first | exact .refl | apply Drop.skip)))))))
    (fns_eq (lay1_spec X B p _ _ true bl τ c8 co cf (goO (B.rb true) (B.rn true) L o) ho2) (by repeat (first | exact .nil | (apply Part.cons; · (repeat (first | exact .head | apply Sel.tail))))) (fun R => by simp only [List.cons_append, List.nil_append]; exact (To.sat (by repeat (first | exact .nil | exact .done .refl | (apply To.cons; · (repeat (first | exact .head | apply Sel.tail))) | exact .done (by repeat (first | exact .refl | apply Drop.skip)))))))) (by repeat (first | exact .nil | (apply Part.cons; · (repeat (first | exact .head | apply Sel.tail))))) (fun R => by simp only [List.cons_append, List.nil_append]; exact fun h s => Sat.swap (ex_close () trivial (To.sat (by repeat (first | exact .nil | exact .done .refl | (apply To.cons; · (repeat (first | exact .head | apply Sel.tail))) | exact .done (by repeat (first | exact .refl | apply Drop.skip))))) h s))

theorem step_of_t_go (X : BX) (B : PB) (p : Nat) (L : List Int) (t : Int) (hB : PI B L) (o : RO) (hi : OI o) (ho : o.out = 0) (hov : (goO (B.rb true) (B.rn true) L o).over = false) : FnS Tryz.prog 14 [ptr p 0] [phA X B p (.of true o), envA X B L t] (fun u Bs => u = .bool (⟨.of true (goO (B.rb true) (B.rn true) L o), 0, 0⟩ : PO).over ∧ Bs = [postA X B p (⟨.of true (goO (B.rb true) (B.rn true) L o), 0, 0⟩), envA X B (goL (B.rb true) (B.rn true) L o) (tup t)]) := by
  refine fns_sel .head (fun e _ => ?_)
  obtain ⟨τ, c5, c3⟩ := e
  simp only [List.cons_append, List.nil_append]
  refine fns_sel (ι := Unit) (by repeat (first | exact .head | apply Sel.tail)) (fun _ _ => ?_)
  simp only [List.cons_append, List.nil_append]
  have hov0 : o.over = false := by unfold RO.over; rw [ho]; rfl
  have hS := Step_spec τ (X.r true) X.m (B.rb true) (B.rn true) L t o (hB.ri true) hi
  rw [hov, hov0] at hS
  simp only [Bool.false_eq_true, if_false] at hS
  refine fns_eq (st_go 93 _ (ptr τ 0) _ [opA τ (X.r true) o, memA X.m (L) (t), ringA (X.r true) X.m (B.rb true) (B.rn true), cel c5 42 [ptr p 0], cel c3 93 [ptr τ 0], bxA X B] [opA τ (X.r true) (goO (B.rb true) (B.rn true) L o), memA X.m (goL (B.rb true) (B.rn true) L o) (tup t), ringA (X.r true) X.m (B.rb true) (B.rn true), cel c5 42 [ptr p 0], cel c3 93 [ptr τ 0], bxA X B] (fns_eq hS (by repeat (first | exact .nil | (apply Part.cons; · (repeat (first | exact .head | apply Sel.tail))))) (fun R => by simp only [List.cons_append, List.nil_append]; exact (To.sat (by repeat (first | exact .nil | exact .done .refl | (apply To.cons; · (repeat (first | exact .head | apply Sel.tail))) | exact .done (by repeat (first | exact .refl | apply Drop.skip)))))))) (by repeat (first | exact .nil | (apply Part.cons; · (repeat (first | exact .head | apply Sel.tail))))) (fun R => ?_)
  simp only [List.cons_append, List.nil_append]
  refine fun h s => Sat.swap (ex_close () trivial (As := _) (R := postA X B p ⟨.of true (goO (B.rb true) (B.rn true) L o), 0, 0⟩ :: R) ?_ h s)
  simp only [List.cons_append, List.nil_append]
  refine fun h s => (Sel.from (A := postA X B p ⟨.of true (goO (B.rb true) (B.rn true) L o), 0, 0⟩) (.tail (.tail (.tail (.tail .head))))) (post_go (ex_close (τ, c5, c3) trivial (To.sat (by repeat (first | exact .nil | exact .done .refl | (apply To.cons; · (repeat (first | exact .head | apply Sel.tail))) | exact .done (by repeat (first | exact .refl | apply Drop.skip)))))) h s)

theorem step_of_t_ov (X : BX) (B : PB) (p : Nat) (L : List Int) (t : Int) (hB : PI B L) (o : RO) (hi : OI o) (ho : o.out = 0) (hov : (goO (B.rb true) (B.rn true) L o).over = true) : FnS Tryz.prog 14 [ptr p 0] [phA X B p (.of true o), envA X B L t] (fun u Bs => u = .bool (⟨.of true (goO (B.rb true) (B.rn true) L o), (goO (B.rb true) (B.rn true) L o).out, (goO (B.rb true) (B.rn true) L o).value⟩ : PO).over ∧ Bs = [postA X B p (⟨.of true (goO (B.rb true) (B.rn true) L o), (goO (B.rb true) (B.rn true) L o).out, (goO (B.rb true) (B.rn true) L o).value⟩), envA X B (goL (B.rb true) (B.rn true) L o) (tup t)]) := by
  refine fns_sel .head (fun e _ => ?_)
  obtain ⟨τ, c5, c3⟩ := e
  simp only [List.cons_append, List.nil_append]
  refine fns_sel (ι := Unit) (by repeat (first | exact .head | apply Sel.tail)) (fun _ _ => ?_)
  simp only [List.cons_append, List.nil_append]
  have hov0 : o.over = false := by unfold RO.over; rw [ho]; rfl
  have hS := Step_spec τ (X.r true) X.m (B.rb true) (B.rn true) L t o (hB.ri true) hi
  rw [hov, hov0] at hS
  simp only [Bool.false_eq_true, if_false] at hS
  have ho2 : (goO (B.rb true) (B.rn true) L o).out ≠ 0 := by simpa [RO.over] using hov
  exact fns_eq (st_then 93 _ 76 (ptr τ 0) [ptr c5 0, ptr c3 0] [opA τ (X.r true) o, memA X.m (L) (t), ringA (X.r true) X.m (B.rb true) (B.rn true), cel c5 42 [ptr p 0], cel c3 93 [ptr τ 0], bxA X B] [opA τ (X.r true) (goO (B.rb true) (B.rn true) L o), memA X.m (goL (B.rb true) (B.rn true) L o) (tup t), ringA (X.r true) X.m (B.rb true) (B.rn true), cel c5 42 [ptr p 0], cel c3 93 [ptr τ 0], bxA X B] [memA X.m (goL (B.rb true) (B.rn true) L o) (tup t), ringA (X.r true) X.m (B.rb true) (B.rn true), bxA X B] (⟨.of true (goO (B.rb true) (B.rn true) L o), (goO (B.rb true) (B.rn true) L o).out, (goO (B.rb true) (B.rn true) L o).value⟩)
    (fns_eq hS (by repeat (first | exact .nil | (apply Part.cons; · (repeat (first | exact .head | apply Sel.tail))))) (fun R => by simp only [List.cons_append, List.nil_append]; exact (To.sat (by repeat (first | exact .nil | exact .done .refl | (apply To.cons; · (repeat (first | exact .head | apply Sel.tail))) | exact .done (by repeat (first | exact .refl | apply Drop.skip)))))))
    (fns_eq (of1_spec X B p _ _ τ (X.r true) c5 c3 true (goO (B.rb true) (B.rn true) L o) ho2) (by repeat (first | exact .nil | (apply Part.cons; · (repeat (first | exact .head | apply Sel.tail))))) (fun R => by simp only [List.cons_append, List.nil_append]; exact (To.sat (by repeat (first | exact .nil | exact .done .refl | (apply To.cons; · (repeat (first | exact .head | apply Sel.tail))) | exact .done (by repeat (first | exact .refl | apply Drop.skip)))))))) (by repeat (first | exact .nil | (apply Part.cons; · (repeat (first | exact .head | apply Sel.tail))))) (fun R => by simp only [List.cons_append, List.nil_append]; exact fun h s => Sat.swap (ex_close () trivial (To.sat (by repeat (first | exact .nil | exact .done .refl | (apply To.cons; · (repeat (first | exact .head | apply Sel.tail))) | exact .done (by repeat (first | exact .refl | apply Drop.skip))))) h s))

theorem step_look_tt_go (X : BX) (B : PB) (p : Nat) (L : List Int) (t : Int) (hB : PI B L) (o : RO) (hi : OI o) (ho : o.out = 0) (hov : (goO (B.rb true) (B.rn true) L o).over = false) : FnS Tryz.prog 14 [ptr p 0] [phA X B p (.look true true o), envA X B L t] (fun u Bs => u = .bool (⟨.look true true (goO (B.rb true) (B.rn true) L o), 0, 0⟩ : PO).over ∧ Bs = [postA X B p (⟨.look true true (goO (B.rb true) (B.rn true) L o), 0, 0⟩), envA X B (goL (B.rb true) (B.rn true) L o) (tup t)]) := by
  refine fns_sel .head (fun e _ => ?_)
  obtain ⟨τ, c6, c3, c4, c5, br⟩ := e
  simp only [List.cons_append, List.nil_append]
  refine fns_sel (ι := Unit) (by repeat (first | exact .head | apply Sel.tail)) (fun _ _ => ?_)
  simp only [List.cons_append, List.nil_append]
  have hov0 : o.over = false := by unfold RO.over; rw [ho]; rfl
  have hS := Step_spec τ (X.r true) X.m (B.rb true) (B.rn true) L t o (hB.ri true) hi
  rw [hov, hov0] at hS
  simp only [Bool.false_eq_true, if_false] at hS
  refine fns_eq (st_go 93 _ (ptr τ 0) _ [opA τ (X.r true) o, memA X.m (L) (t), ringA (X.r true) X.m (B.rb true) (B.rn true), cel c6 93 [ptr τ 0], cel c3 42 [ptr p 0], cel c4 39 [U64 (stOf true)], cel c5 95 [rgS true true br], cel br 71 [ptr (X.r true) 0, ptr (X.r false) 0], bxA X B] [opA τ (X.r true) (goO (B.rb true) (B.rn true) L o), memA X.m (goL (B.rb true) (B.rn true) L o) (tup t), ringA (X.r true) X.m (B.rb true) (B.rn true), cel c6 93 [ptr τ 0], cel c3 42 [ptr p 0], cel c4 39 [U64 (stOf true)], cel c5 95 [rgS true true br], cel br 71 [ptr (X.r true) 0, ptr (X.r false) 0], bxA X B] (fns_eq hS (by repeat (first | exact .nil | (apply Part.cons; · (repeat (first | exact .head | apply Sel.tail))))) (fun R => by simp only [List.cons_append, List.nil_append]; exact (To.sat (by repeat (first | exact .nil | exact .done .refl | (apply To.cons; · (repeat (first | exact .head | apply Sel.tail))) | exact .done (by repeat (first | exact .refl | apply Drop.skip)))))))) (by repeat (first | exact .nil | (apply Part.cons; · (repeat (first | exact .head | apply Sel.tail))))) (fun R => ?_)
  simp only [List.cons_append, List.nil_append]
  refine fun h s => Sat.swap (ex_close () trivial (As := _) (R := postA X B p ⟨.look true true (goO (B.rb true) (B.rn true) L o), 0, 0⟩ :: R) ?_ h s)
  simp only [List.cons_append, List.nil_append]
  refine fun h s => (Sel.from (A := postA X B p ⟨.look true true (goO (B.rb true) (B.rn true) L o), 0, 0⟩) (.tail (.tail (.tail (.tail .head))))) (post_go (ex_close (τ, c6, c3, c4, c5, br) trivial (To.sat (by repeat (first | exact .nil | exact .done .refl | (apply To.cons; · (repeat (first | exact .head | apply Sel.tail))) | exact .done (by repeat (first | exact .refl | apply Drop.skip)))))) h s)

theorem step_look_tt_ov (X : BX) (B : PB) (p : Nat) (L : List Int) (t : Int) (hB : PI B L) (o : RO) (hi : OI o) (ho : o.out = 0) (hov : (goO (B.rb true) (B.rn true) L o).over = true) : FnS Tryz.prog 14 [ptr p 0] [phA X B p (.look true true o), envA X B L t] (fun u Bs => u = .bool (if (goO (B.rb true) (B.rn true) L o).out = 1 then ⟨.more true, 0, 0⟩ else ⟨.look true true (goO (B.rb true) (B.rn true) L o), 4, 0⟩ : PO).over ∧ Bs = [postA X B p (if (goO (B.rb true) (B.rn true) L o).out = 1 then ⟨.more true, 0, 0⟩ else ⟨.look true true (goO (B.rb true) (B.rn true) L o), 4, 0⟩), envA X B (goL (B.rb true) (B.rn true) L o) (tup t)]) := by
  refine fns_sel .head (fun e _ => ?_)
  obtain ⟨τ, c6, c3, c4, c5, br⟩ := e
  simp only [List.cons_append, List.nil_append]
  refine fns_sel (ι := Unit) (by repeat (first | exact .head | apply Sel.tail)) (fun _ _ => ?_)
  simp only [List.cons_append, List.nil_append]
  have hov0 : o.over = false := by unfold RO.over; rw [ho]; rfl
  have hS := Step_spec τ (X.r true) X.m (B.rb true) (B.rn true) L t o (hB.ri true) hi
  rw [hov, hov0] at hS
  simp only [Bool.false_eq_true, if_false] at hS
  have ho2 : (goO (B.rb true) (B.rn true) L o).out ≠ 0 := by simpa [RO.over] using hov
  exact fns_eq (st_then 93 _ 83 (ptr τ 0) [ptr c6 0, ptr c3 0, ptr c4 0, ptr c5 0] [opA τ (X.r true) o, memA X.m (L) (t), ringA (X.r true) X.m (B.rb true) (B.rn true), cel c6 93 [ptr τ 0], cel c3 42 [ptr p 0], cel c4 39 [U64 (stOf true)], cel c5 95 [rgS true true br], cel br 71 [ptr (X.r true) 0, ptr (X.r false) 0], bxA X B] [opA τ (X.r true) (goO (B.rb true) (B.rn true) L o), memA X.m (goL (B.rb true) (B.rn true) L o) (tup t), ringA (X.r true) X.m (B.rb true) (B.rn true), cel c6 93 [ptr τ 0], cel c3 42 [ptr p 0], cel c4 39 [U64 (stOf true)], cel c5 95 [rgS true true br], cel br 71 [ptr (X.r true) 0, ptr (X.r false) 0], bxA X B] [memA X.m (goL (B.rb true) (B.rn true) L o) (tup t), ringA (X.r true) X.m (B.rb true) (B.rn true), bxA X B] (if (goO (B.rb true) (B.rn true) L o).out = 1 then ⟨.more true, 0, 0⟩ else ⟨.look true true (goO (B.rb true) (B.rn true) L o), 4, 0⟩)
    (fns_eq hS (by repeat (first | exact .nil | (apply Part.cons; · (repeat (first | exact .head | apply Sel.tail))))) (fun R => by simp only [List.cons_append, List.nil_append]; exact (To.sat (by repeat (first | exact .nil | exact .done .refl | (apply To.cons; · (repeat (first | exact .head | apply Sel.tail))) | exact .done (by repeat (first | exact .refl | apply Drop.skip)))))))
    (fns_eq (look1_tt X B p _ _ τ c6 c3 c4 c5 br (goO (B.rb true) (B.rn true) L o) ho2) (by repeat (first | exact .nil | (apply Part.cons; · (repeat (first | exact .head | apply Sel.tail))))) (fun R => by simp only [List.cons_append, List.nil_append]; exact (To.sat (by repeat (first | exact .nil | exact .done .refl | (apply To.cons; · (repeat (first | exact .head | apply Sel.tail))) | exact .done (by repeat (first | exact .refl | apply Drop.skip)))))))) (by repeat (first | exact .nil | (apply Part.cons; · (repeat (first | exact .head | apply Sel.tail))))) (fun R => by simp only [List.cons_append, List.nil_append]; exact fun h s => Sat.swap (ex_close () trivial (To.sat (by repeat (first | exact .nil | exact .done .refl | (apply To.cons; · (repeat (first | exact .head | apply Sel.tail))) | exact .done (by repeat (first | exact .refl | apply Drop.skip))))) h s))

theorem step_look_ft_go (X : BX) (B : PB) (p : Nat) (L : List Int) (t : Int) (hB : PI B L) (o : RO) (hi : OI o) (ho : o.out = 0) (hov : (goO (B.rb true) (B.rn true) L o).over = false) : FnS Tryz.prog 14 [ptr p 0] [phA X B p (.look false true o), envA X B L t] (fun u Bs => u = .bool (⟨.look false true (goO (B.rb true) (B.rn true) L o), 0, 0⟩ : PO).over ∧ Bs = [postA X B p (⟨.look false true (goO (B.rb true) (B.rn true) L o), 0, 0⟩), envA X B (goL (B.rb true) (B.rn true) L o) (tup t)]) := by
  refine fns_sel .head (fun e _ => ?_)
  obtain ⟨τ, c6, c3, c4, c5, br⟩ := e
  simp only [List.cons_append, List.nil_append]
  refine fns_sel (ι := Unit) (by repeat (first | exact .head | apply Sel.tail)) (fun _ _ => ?_)
  simp only [List.cons_append, List.nil_append]
  have hov0 : o.over = false := by unfold RO.over; rw [ho]; rfl
  have hS := Step_spec τ (X.r true) X.m (B.rb true) (B.rn true) L t o (hB.ri true) hi
  rw [hov, hov0] at hS
  simp only [Bool.false_eq_true, if_false] at hS
  refine fns_eq (st_go 93 _ (ptr τ 0) _ [opA τ (X.r true) o, memA X.m (L) (t), ringA (X.r true) X.m (B.rb true) (B.rn true), cel c6 93 [ptr τ 0], cel c3 42 [ptr p 0], cel c4 39 [U64 (stOf false)], cel c5 95 [rgS false true br], cel br 71 [ptr (X.r true) 0, ptr (X.r false) 0], bxA X B] [opA τ (X.r true) (goO (B.rb true) (B.rn true) L o), memA X.m (goL (B.rb true) (B.rn true) L o) (tup t), ringA (X.r true) X.m (B.rb true) (B.rn true), cel c6 93 [ptr τ 0], cel c3 42 [ptr p 0], cel c4 39 [U64 (stOf false)], cel c5 95 [rgS false true br], cel br 71 [ptr (X.r true) 0, ptr (X.r false) 0], bxA X B] (fns_eq hS (by repeat (first | exact .nil | (apply Part.cons; · (repeat (first | exact .head | apply Sel.tail))))) (fun R => by simp only [List.cons_append, List.nil_append]; exact (To.sat (by repeat (first | exact .nil | exact .done .refl | (apply To.cons; · (repeat (first | exact .head | apply Sel.tail))) | exact .done (by repeat (first | exact .refl | apply Drop.skip)))))))) (by repeat (first | exact .nil | (apply Part.cons; · (repeat (first | exact .head | apply Sel.tail))))) (fun R => ?_)
  simp only [List.cons_append, List.nil_append]
  refine fun h s => Sat.swap (ex_close () trivial (As := _) (R := postA X B p ⟨.look false true (goO (B.rb true) (B.rn true) L o), 0, 0⟩ :: R) ?_ h s)
  simp only [List.cons_append, List.nil_append]
  refine fun h s => (Sel.from (A := postA X B p ⟨.look false true (goO (B.rb true) (B.rn true) L o), 0, 0⟩) (.tail (.tail (.tail (.tail .head))))) (post_go (ex_close (τ, c6, c3, c4, c5, br) trivial (To.sat (by repeat (first | exact .nil | exact .done .refl | (apply To.cons; · (repeat (first | exact .head | apply Sel.tail))) | exact .done (by repeat (first | exact .refl | apply Drop.skip)))))) h s)

theorem step_look_ft_ov (X : BX) (B : PB) (p : Nat) (L : List Int) (t : Int) (hB : PI B L) (o : RO) (hi : OI o) (ho : o.out = 0) (hov : (goO (B.rb true) (B.rn true) L o).over = true) : FnS Tryz.prog 14 [ptr p 0] [phA X B p (.look false true o), envA X B L t] (fun u Bs => u = .bool (if (goO (B.rb true) (B.rn true) L o).out = 1 then ⟨.more false, 0, 0⟩ else ⟨.look false false (ini 12 0), 0, 0⟩ : PO).over ∧ Bs = [postA X B p (if (goO (B.rb true) (B.rn true) L o).out = 1 then ⟨.more false, 0, 0⟩ else ⟨.look false false (ini 12 0), 0, 0⟩), envA X B (goL (B.rb true) (B.rn true) L o) (tup t)]) := by
  refine fns_sel .head (fun e _ => ?_)
  obtain ⟨τ, c6, c3, c4, c5, br⟩ := e
  simp only [List.cons_append, List.nil_append]
  refine fns_sel (ι := Unit) (by repeat (first | exact .head | apply Sel.tail)) (fun _ _ => ?_)
  simp only [List.cons_append, List.nil_append]
  have hov0 : o.over = false := by unfold RO.over; rw [ho]; rfl
  have hS := Step_spec τ (X.r true) X.m (B.rb true) (B.rn true) L t o (hB.ri true) hi
  rw [hov, hov0] at hS
  simp only [Bool.false_eq_true, if_false] at hS
  have ho2 : (goO (B.rb true) (B.rn true) L o).out ≠ 0 := by simpa [RO.over] using hov
  exact fns_eq (st_then 93 _ 83 (ptr τ 0) [ptr c6 0, ptr c3 0, ptr c4 0, ptr c5 0] [opA τ (X.r true) o, memA X.m (L) (t), ringA (X.r true) X.m (B.rb true) (B.rn true), cel c6 93 [ptr τ 0], cel c3 42 [ptr p 0], cel c4 39 [U64 (stOf false)], cel c5 95 [rgS false true br], cel br 71 [ptr (X.r true) 0, ptr (X.r false) 0], bxA X B] [opA τ (X.r true) (goO (B.rb true) (B.rn true) L o), memA X.m (goL (B.rb true) (B.rn true) L o) (tup t), ringA (X.r true) X.m (B.rb true) (B.rn true), cel c6 93 [ptr τ 0], cel c3 42 [ptr p 0], cel c4 39 [U64 (stOf false)], cel c5 95 [rgS false true br], cel br 71 [ptr (X.r true) 0, ptr (X.r false) 0], bxA X B] [memA X.m (goL (B.rb true) (B.rn true) L o) (tup t), ringA (X.r true) X.m (B.rb true) (B.rn true), bxA X B] (if (goO (B.rb true) (B.rn true) L o).out = 1 then ⟨.more false, 0, 0⟩ else ⟨.look false false (ini 12 0), 0, 0⟩)
    (fns_eq hS (by repeat (first | exact .nil | (apply Part.cons; · (repeat (first | exact .head | apply Sel.tail))))) (fun R => by simp only [List.cons_append, List.nil_append]; exact (To.sat (by repeat (first | exact .nil | exact .done .refl | (apply To.cons; · (repeat (first | exact .head | apply Sel.tail))) | exact .done (by repeat (first | exact .refl | apply Drop.skip)))))))
    (fns_eq (look1_ft X B p _ _ τ c6 c3 c4 c5 br (goO (B.rb true) (B.rn true) L o) ho2) (by repeat (first | exact .nil | (apply Part.cons; · (repeat (first | exact .head | apply Sel.tail))))) (fun R => by simp only [List.cons_append, List.nil_append]; exact (To.sat (by repeat (first | exact .nil | exact .done .refl | (apply To.cons; · (repeat (first | exact .head | apply Sel.tail))) | exact .done (by repeat (first | exact .refl | apply Drop.skip)))))))) (by repeat (first | exact .nil | (apply Part.cons; · (repeat (first | exact .head | apply Sel.tail))))) (fun R => by simp only [List.cons_append, List.nil_append]; exact fun h s => Sat.swap (ex_close () trivial (To.sat (by repeat (first | exact .nil | exact .done .refl | (apply To.cons; · (repeat (first | exact .head | apply Sel.tail))) | exact .done (by repeat (first | exact .refl | apply Drop.skip))))) h s))

theorem step_look_ff_go (X : BX) (B : PB) (p : Nat) (L : List Int) (t : Int) (hB : PI B L) (o : RO) (hi : OI o) (ho : o.out = 0) (hov : (goO (B.rb false) (B.rn false) L o).over = false) : FnS Tryz.prog 14 [ptr p 0] [phA X B p (.look false false o), envA X B L t] (fun u Bs => u = .bool (⟨.look false false (goO (B.rb false) (B.rn false) L o), 0, 0⟩ : PO).over ∧ Bs = [postA X B p (⟨.look false false (goO (B.rb false) (B.rn false) L o), 0, 0⟩), envA X B (goL (B.rb false) (B.rn false) L o) (tup t)]) := by
  refine fns_sel .head (fun e _ => ?_)
  obtain ⟨τ, c6, c3, c4, c5, br⟩ := e
  simp only [List.cons_append, List.nil_append]
  refine fns_sel (ι := Unit) (by repeat (first | exact .head | apply Sel.tail)) (fun _ _ => ?_)
  simp only [List.cons_append, List.nil_append]
  have hov0 : o.over = false := by unfold RO.over; rw [ho]; rfl
  have hS := Step_spec τ (X.r false) X.m (B.rb false) (B.rn false) L t o (hB.ri false) hi
  rw [hov, hov0] at hS
  simp only [Bool.false_eq_true, if_false] at hS
  refine fns_eq (st_go 93 _ (ptr τ 0) _ [opA τ (X.r false) o, memA X.m (L) (t), ringA (X.r false) X.m (B.rb false) (B.rn false), cel c6 93 [ptr τ 0], cel c3 42 [ptr p 0], cel c4 39 [U64 (stOf false)], cel c5 95 [rgS false false br], cel br 71 [ptr (X.r true) 0, ptr (X.r false) 0], bxA X B] [opA τ (X.r false) (goO (B.rb false) (B.rn false) L o), memA X.m (goL (B.rb false) (B.rn false) L o) (tup t), ringA (X.r false) X.m (B.rb false) (B.rn false), cel c6 93 [ptr τ 0], cel c3 42 [ptr p 0], cel c4 39 [U64 (stOf false)], cel c5 95 [rgS false false br], cel br 71 [ptr (X.r true) 0, ptr (X.r false) 0], bxA X B] (fns_eq hS (by repeat (first | exact .nil | (apply Part.cons; · (repeat (first | exact .head | apply Sel.tail))))) (fun R => by simp only [List.cons_append, List.nil_append]; exact (To.sat (by repeat (first | exact .nil | exact .done .refl | (apply To.cons; · (repeat (first | exact .head | apply Sel.tail))) | exact .done (by repeat (first | exact .refl | apply Drop.skip)))))))) (by repeat (first | exact .nil | (apply Part.cons; · (repeat (first | exact .head | apply Sel.tail))))) (fun R => ?_)
  simp only [List.cons_append, List.nil_append]
  refine fun h s => Sat.swap (ex_close () trivial (As := _) (R := postA X B p ⟨.look false false (goO (B.rb false) (B.rn false) L o), 0, 0⟩ :: R) ?_ h s)
  simp only [List.cons_append, List.nil_append]
  refine fun h s => (Sel.from (A := postA X B p ⟨.look false false (goO (B.rb false) (B.rn false) L o), 0, 0⟩) (.tail (.tail (.tail (.tail .head))))) (post_go (ex_close (τ, c6, c3, c4, c5, br) trivial (To.sat (by repeat (first | exact .nil | exact .done .refl | (apply To.cons; · (repeat (first | exact .head | apply Sel.tail))) | exact .done (by repeat (first | exact .refl | apply Drop.skip)))))) h s)

theorem step_look_ff_ov (X : BX) (B : PB) (p : Nat) (L : List Int) (t : Int) (hB : PI B L) (o : RO) (hi : OI o) (ho : o.out = 0) (hov : (goO (B.rb false) (B.rn false) L o).over = true) : FnS Tryz.prog 14 [ptr p 0] [phA X B p (.look false false o), envA X B L t] (fun u Bs => u = .bool (if (goO (B.rb false) (B.rn false) L o).out = 1 then ⟨.more false, 0, 0⟩ else ⟨.look false false (goO (B.rb false) (B.rn false) L o), 4, 0⟩ : PO).over ∧ Bs = [postA X B p (if (goO (B.rb false) (B.rn false) L o).out = 1 then ⟨.more false, 0, 0⟩ else ⟨.look false false (goO (B.rb false) (B.rn false) L o), 4, 0⟩), envA X B (goL (B.rb false) (B.rn false) L o) (tup t)]) := by
  refine fns_sel .head (fun e _ => ?_)
  obtain ⟨τ, c6, c3, c4, c5, br⟩ := e
  simp only [List.cons_append, List.nil_append]
  refine fns_sel (ι := Unit) (by repeat (first | exact .head | apply Sel.tail)) (fun _ _ => ?_)
  simp only [List.cons_append, List.nil_append]
  have hov0 : o.over = false := by unfold RO.over; rw [ho]; rfl
  have hS := Step_spec τ (X.r false) X.m (B.rb false) (B.rn false) L t o (hB.ri false) hi
  rw [hov, hov0] at hS
  simp only [Bool.false_eq_true, if_false] at hS
  have ho2 : (goO (B.rb false) (B.rn false) L o).out ≠ 0 := by simpa [RO.over] using hov
  exact fns_eq (st_then 93 _ 83 (ptr τ 0) [ptr c6 0, ptr c3 0, ptr c4 0, ptr c5 0] [opA τ (X.r false) o, memA X.m (L) (t), ringA (X.r false) X.m (B.rb false) (B.rn false), cel c6 93 [ptr τ 0], cel c3 42 [ptr p 0], cel c4 39 [U64 (stOf false)], cel c5 95 [rgS false false br], cel br 71 [ptr (X.r true) 0, ptr (X.r false) 0], bxA X B] [opA τ (X.r false) (goO (B.rb false) (B.rn false) L o), memA X.m (goL (B.rb false) (B.rn false) L o) (tup t), ringA (X.r false) X.m (B.rb false) (B.rn false), cel c6 93 [ptr τ 0], cel c3 42 [ptr p 0], cel c4 39 [U64 (stOf false)], cel c5 95 [rgS false false br], cel br 71 [ptr (X.r true) 0, ptr (X.r false) 0], bxA X B] [memA X.m (goL (B.rb false) (B.rn false) L o) (tup t), ringA (X.r false) X.m (B.rb false) (B.rn false), bxA X B] (if (goO (B.rb false) (B.rn false) L o).out = 1 then ⟨.more false, 0, 0⟩ else ⟨.look false false (goO (B.rb false) (B.rn false) L o), 4, 0⟩)
    (fns_eq hS (by repeat (first | exact .nil | (apply Part.cons; · (repeat (first | exact .head | apply Sel.tail))))) (fun R => by simp only [List.cons_append, List.nil_append]; exact (To.sat (by repeat (first | exact .nil | exact .done .refl | (apply To.cons; · (repeat (first | exact .head | apply Sel.tail))) | exact .done (by repeat (first | exact .refl | apply Drop.skip)))))))
    (fns_eq (look1_ff X B p _ _ τ c6 c3 c4 c5 br (goO (B.rb false) (B.rn false) L o) ho2) (by repeat (first | exact .nil | (apply Part.cons; · (repeat (first | exact .head | apply Sel.tail))))) (fun R => by simp only [List.cons_append, List.nil_append]; exact (To.sat (by repeat (first | exact .nil | exact .done .refl | (apply To.cons; · (repeat (first | exact .head | apply Sel.tail))) | exact .done (by repeat (first | exact .refl | apply Drop.skip)))))))) (by repeat (first | exact .nil | (apply Part.cons; · (repeat (first | exact .head | apply Sel.tail))))) (fun R => by simp only [List.cons_append, List.nil_append]; exact fun h s => Sat.swap (ex_close () trivial (To.sat (by repeat (first | exact .nil | exact .done .refl | (apply To.cons; · (repeat (first | exact .head | apply Sel.tail))) | exact .done (by repeat (first | exact .refl | apply Drop.skip))))) h s))

theorem post_if {X : BX} {B : PB} {p : Nat} {a b : PO} {c : Prop} [Decidable c] : postA X B p (if c then a else b) = if c then postA X B p a else postA X B p b := by split <;> rfl
theorem pstep_spec (X : BX) (B : PB) (p : Nat) (L : List Int) (t : Int) (po : PO) (hB : PI B L) (hp : POI po) : FnS Tryz.prog 14 [ptr p 0] [postA X B p po, envA X B L t] (fun u Bs => u = .bool (goPO B L po).over ∧ Bs = [postA X B p (goPO B L po), envA X B (goPL B L po) (if po.over then t else tup t)]) := by
  obtain ⟨ph, out, val⟩ := po
  by_cases ho : out = 0
  · subst ho
    obtain ⟨hi, hv⟩ := hp rfl
    obtain rfl : val = 0 := hv
    have eA : postA X B p ⟨ph, 0, 0⟩ = phA X B p ph := by unfold postA; rw [if_pos rfl]
    have eO : (⟨ph, 0, 0⟩ : PO).over = false := rfl
    have e1 : goPO B L ⟨ph, 0, 0⟩ = (stepP B L ph).2 := by unfold goPO; rw [eO]; rfl
    have e2 : goPL B L ⟨ph, 0, 0⟩ = (stepP B L ph).1 := by unfold goPL; rw [eO]; rfl
    rw [eA, e1, e2, eO]
    simp only [Bool.false_eq_true, if_false]
    have rp : ∀ (r : Bool) (o : RO), (ph = .put r o ∨ ph = .of r o) → True := fun _ _ _ => trivial
    cases ph with
    | put nt o =>
      cases hov : (goO (B.rb nt) (B.rn nt) L o).over with
      | false =>
        have e : (stepP B L (.put nt o)) = (goL (B.rb nt) (B.rn nt) L o, ⟨.put nt (goO (B.rb nt) (B.rn nt) L o), 0, 0⟩) := by simp only [stepP, hov, Bool.false_eq_true, if_false]
        rw [e]; cases nt
        · exact step_put_f_go X B p L t hB o hi.1 hi.2 hov
        · exact step_put_t_go X B p L t hB o hi.1 hi.2 hov
      | true =>
        have e : (stepP B L (.put nt o)) = (goL (B.rb nt) (B.rn nt) L o, if (goO (B.rb nt) (B.rn nt) L o).out = 1 then ⟨.see nt, 0, 0⟩ else ⟨.put nt (goO (B.rb nt) (B.rn nt) L o), (goO (B.rb nt) (B.rn nt) L o).out, 0⟩) := by simp only [stepP, hov, if_true]
        rw [e]; cases nt
        · exact step_put_f_ov X B p L t hB o hi.1 hi.2 hov
        · exact step_put_t_ov X B p L t hB o hi.1 hi.2 hov
    | see nt => exact step_see X B p L t hB nt
    | swp nt s =>
      have h := step_swp X B p L t hB nt s
      simp only [stepP]
      by_cases hc : L.getD B.b 0 = s
      · rw [decide_eq_true hc, if_pos hc] at h; rw [if_pos hc]; exact h
      · rw [decide_eq_false hc, if_neg hc] at h; rw [if_neg hc]; exact h
    | ask v =>
      have h := step_ask X B p L t hB v
      simp only [stepP]
      by_cases hc : L.getD (B.b + 1) 0 = 0
      · rw [decide_eq_true hc, if_pos hc] at h; rw [if_pos hc]; exact h
      · rw [decide_eq_false hc, if_neg hc] at h; rw [if_neg hc]; exact h
    | set st => exact step_set X B p L t hB st
    | of r o =>
      cases hov : (goO (B.rb r) (B.rn r) L o).over with
      | false =>
        have e : (stepP B L (.of r o)) = (goL (B.rb r) (B.rn r) L o, ⟨.of r (goO (B.rb r) (B.rn r) L o), 0, 0⟩) := by simp only [stepP, hov, Bool.false_eq_true, if_false]
        rw [e]; cases r
        · exact step_of_f_go X B p L t hB o hi.1 hi.2 hov
        · exact step_of_t_go X B p L t hB o hi.1 hi.2 hov
      | true =>
        have e : (stepP B L (.of r o)) = (goL (B.rb r) (B.rn r) L o, ⟨.of r (goO (B.rb r) (B.rn r) L o), (goO (B.rb r) (B.rn r) L o).out, (goO (B.rb r) (B.rn r) L o).value⟩) := by simp only [stepP, hov, if_true]
        rw [e]; cases r
        · exact step_of_f_ov X B p L t hB o hi.1 hi.2 hov
        · exact step_of_t_ov X B p L t hB o hi.1 hi.2 hov
    | gone => exact step_gone X B p L t hB
    | sto held => cases held
                  · exact step_stof X B p L t hB
                  · exact step_stot X B p L t hB
    | look held r o =>
      cases hov : (goO (B.rb r) (B.rn r) L o).over with
      | false =>
        have e : (stepP B L (.look held r o)) = (goL (B.rb r) (B.rn r) L o, ⟨.look held r (goO (B.rb r) (B.rn r) L o), 0, 0⟩) := by simp only [stepP, hov, Bool.false_eq_true, if_false]
        rw [e]; cases held <;> cases r
        · exact step_look_ff_go X B p L t hB o hi.1 hi.2.1 hov
        · exact step_look_ft_go X B p L t hB o hi.1 hi.2.1 hov
        · cases hi.2.2 rfl
        · exact step_look_tt_go X B p L t hB o hi.1 hi.2.1 hov
      | true =>
        have e : (stepP B L (.look held r o)) = (goL (B.rb r) (B.rn r) L o, if (goO (B.rb r) (B.rn r) L o).out = 1 then ⟨.more held, 0, 0⟩ else if r && !held then ⟨.look held false (ini 12 0), 0, 0⟩ else ⟨.look held r (goO (B.rb r) (B.rn r) L o), 4, 0⟩) := by simp only [stepP, hov, if_true]
        rw [e]; cases held <;> cases r
        · exact step_look_ff_ov X B p L t hB o hi.1 hi.2.1 hov
        · exact step_look_ft_ov X B p L t hB o hi.1 hi.2.1 hov
        · cases hi.2.2 rfl
        · exact step_look_tt_ov X B p L t hB o hi.1 hi.2.1 hov
    | more held =>
      have h := step_more X B p L t hB held
      simp only [stepP]
      by_cases hc : L.getD B.b 0 = stOf held
      · rw [decide_eq_true hc, if_pos hc] at h; rw [if_pos hc]; exact h
      · rw [decide_eq_false hc, if_neg hc] at h; rw [if_neg hc]; exact h
  · have hov : (⟨ph, out, val⟩ : PO).over = true := by simp [PO.over, ho]
    have e : postA X B p ⟨ph, out, val⟩ = ovA X p out val := by unfold postA; rw [if_neg (show ¬ ((⟨ph, out, val⟩ : PO).out = 0) from ho)]
    have e1 : goPO B L ⟨ph, out, val⟩ = ⟨ph, out, val⟩ := by unfold goPO; rw [if_pos hov]
    have e2 : goPL B L ⟨ph, out, val⟩ = L := by unfold goPL; rw [if_pos hov]
    rw [e1, e2, hov, e]
    simp only [if_true]
    exact fns_ex (fun x _ => fns_eq (pStep_idle p X.bx _ _ out val ho) (.cons .head .nil) (fun R => ex_close x trivial (fun h s => s)))
theorem pOut_spec (X : BX) (B : PB) (p : Nat) (po : PO) : FnS Tryz.prog 42 [ptr p 0] [postA X B p po] (fun u Bs => u = I64 po.out ∧ Bs = [postA X B p po]) := by
  obtain ⟨ph, out, val⟩ := po
  by_cases ho : out = 0
  · subst ho
    have e : postA X B p ⟨ph, 0, val⟩ = phA X B p ph := by unfold postA; rw [if_pos rfl]
    rw [e]
    cases ph <;> exact fns_ex (fun x _ => fns_eq (pOutcome_spec p X.bx _ _ 0 0) (.cons .head .nil) (fun R => ex_close x trivial (fun h s => s)))
  · have e : postA X B p ⟨ph, out, val⟩ = ovA X p out val := by unfold postA; rw [if_neg (show ¬ ((⟨ph, out, val⟩ : PO).out = 0) from ho)]
    rw [e]
    exact fns_ex (fun x _ => fns_eq (pOutcome_spec p X.bx _ _ out val) (.cons .head .nil) (fun R => ex_close x trivial (fun h s => s)))
theorem pVal_spec (X : BX) (B : PB) (p : Nat) (po : PO) (hp : POI po) : FnS Tryz.prog 43 [ptr p 0] [postA X B p po] (fun u Bs => u = U64 po.val ∧ Bs = [postA X B p po]) := by
  obtain ⟨ph, out, val⟩ := po
  by_cases ho : out = 0
  · subst ho
    obtain ⟨_, hv⟩ := hp rfl
    obtain rfl : val = 0 := hv
    have e : postA X B p ⟨ph, 0, 0⟩ = phA X B p ph := by unfold postA; rw [if_pos rfl]
    rw [e]
    cases ph <;> exact fns_ex (fun x _ => fns_eq (pValue_spec p X.bx _ _ 0 0) (.cons .head .nil) (fun R => ex_close x trivial (fun h s => s)))
  · have e : postA X B p ⟨ph, out, val⟩ = ovA X p out val := by unfold postA; rw [if_neg (show ¬ ((⟨ph, out, val⟩ : PO).out = 0) from ho)]
    rw [e]
    exact fns_ex (fun x _ => fns_eq (pValue_spec p X.bx _ _ out val) (.cons .head .nil) (fun R => ex_close x trivial (fun h s => s)))

end Go.Proofs.YtkpgcdhepfgfaaaGreat.L
