/-
  The box's operations, piece by piece. Own work, printed in part by a program of its own.
-/
import Derived.Test.YtkpgcdhepfgfaaaGreatPostF
set_option linter.unusedSimpArgs false
set_option linter.unusedVariables false
set_option linter.unusedSectionVars false
namespace Go.Proofs.YtkpgcdhepfgfaaaGreat.L
open Go.L Go.L.Ring Go.L.Post
structure BX where
  bx : Nat
  m : Nat
  r1 : Nat
  r2 : Nat
def BX.r (X : BX) : Bool → Nat
  | true => X.r2
  | false => X.r1
abbrev bxA (X : BX) (B : PB) : Assn := boxC X.bx X.m B.b (X.r false) (X.r true)
def fromL : Bool → List Int
  | true => [0, 3]
  | false => [0]
def fromN : Bool → Nat
  | true => 2
  | false => 1
theorem from_len (nt : Bool) : (fromL nt).length = fromN nt := by cases nt <;> rfl
theorem from_in (nt : Bool) (s : Int) : rouses nt s = decide (s ∈ fromL nt) := by
  cases nt <;> simp [rouses, fromL]
abbrev frS (nt : Bool) (bl : Nat) : Value := .slice (some ⟨bl, 0, none⟩) (fromN nt) (fromN nt)
abbrev rgS (held : Bool) (r : Bool) (br : Nat) : Value := match r with
  | true => (match held with
    | true => .slice (some ⟨br, 0, none⟩) 1 2
    | false => .slice (some ⟨br, 0, none⟩) 2 2)
  | false => .slice (some ⟨br, 1, none⟩) 1 1
def phA (X : BX) (B : PB) (p : Nat) : Ph → Assn
  | .put nt o => exA (ι := Nat × Nat × Nat × Nat × Nat) (fun _ => True) (fun e => [opC p (iR e.1) (fnV 72 [ptr e.2.1 0, ptr e.2.2.1 0, ptr e.2.2.2.1 0]) 0 0 X.bx, opA e.1 (X.r nt) o, cel e.2.1 93 [ptr e.1 0], cel e.2.2.1 42 [ptr p 0], cel e.2.2.2.1 50 [frS nt e.2.2.2.2], cel e.2.2.2.2 39 ((fromL nt).map U64)])
  | .see nt => exA (ι := Nat × Nat × Nat × Nat × Nat) (fun _ => True) (fun e => [opC p (iT e.1) (fnV 98 [ptr e.2.2.2.1 0, ptr e.2.1 0, ptr e.2.2.1 0]) 0 0 X.bx, tLoad e.1 X.m B.b, cel e.2.1 97 [ptr e.1 0], cel e.2.2.1 42 [ptr p 0], cel e.2.2.2.1 50 [frS nt e.2.2.2.2], cel e.2.2.2.2 39 ((fromL nt).map U64)])
  | .swp nt s => exA (ι := Nat × Nat × Nat × Nat × Nat) (fun _ => True) (fun e => [opC p (iT e.1) (fnV 99 [ptr e.2.1 0, ptr e.2.2.1 0, ptr e.2.2.2.1 0]) 0 0 X.bx, tSwap e.1 X.m B.b s 1, cel e.2.1 97 [ptr e.1 0], cel e.2.2.1 42 [ptr p 0], cel e.2.2.2.1 50 [frS nt e.2.2.2.2], cel e.2.2.2.2 39 ((fromL nt).map U64)])
  | .ask v => exA (ι := Nat × Nat × Nat × Nat × Nat) (fun _ => True) (fun e => [opC p (iT e.1) (fnV 59 [ptr e.2.1 0, ptr e.2.2.1 0, ptr e.2.2.2.1 0, ptr e.2.2.2.2 0]) 0 0 X.bx, tSwap e.1 X.m (B.b + 1) 0 1, cel e.2.1 97 [ptr e.1 0], cel e.2.2.1 42 [ptr p 0], cel e.2.2.2.1 29 [ptr X.bx 0], cel e.2.2.2.2 39 [U64 v]])
  | .set st => exA (ι := Nat × Nat) (fun _ => True) (fun e => [opC p (iT e.1) (fnV 75 [ptr e.2 0]) 0 0 X.bx, tStore e.1 X.m B.b st, cel e.2 42 [ptr p 0]])
  | .of r o => exA (ι := Nat × Nat × Nat) (fun _ => True) (fun e => [opC p (iR e.1) (fnV 76 [ptr e.2.1 0, ptr e.2.2 0]) 0 0 X.bx, opA e.1 (X.r r) o, cel e.2.1 42 [ptr p 0], cel e.2.2 93 [ptr e.1 0]])
  | .gone => exA (ι := Nat × Nat × Nat) (fun _ => True) (fun e => [opC p (iT e.1) (fnV 65 [ptr e.2.1 0, ptr e.2.2 0]) 0 0 X.bx, tLoad e.1 X.m B.b, cel e.2.1 97 [ptr e.1 0], cel e.2.2 42 [ptr p 0]])
  | .sto held => exA (ι := Nat × Nat × Nat × Nat × Nat) (fun _ => True) (fun e => [opC p (iT e.1) (fnV 56 [ptr e.2.1 0, ptr e.2.2.1 0, ptr e.2.2.2.1 0]) 0 0 X.bx, tStore e.1 X.m B.b (stOf held), cel e.2.1 42 [ptr p 0], cel e.2.2.1 39 [U64 (stOf held)], cel e.2.2.2.1 95 [rgS held true e.2.2.2.2], cel e.2.2.2.2 71 [ptr (X.r true) 0, ptr (X.r false) 0]])
  | .look held r o => exA (ι := Nat × Nat × Nat × Nat × Nat × Nat) (fun _ => True) (fun e => [opC p (iR e.1) (fnV 83 [ptr e.2.1 0, ptr e.2.2.1 0, ptr e.2.2.2.1 0, ptr e.2.2.2.2.1 0]) 0 0 X.bx, opA e.1 (X.r r) o, cel e.2.1 93 [ptr e.1 0], cel e.2.2.1 42 [ptr p 0], cel e.2.2.2.1 39 [U64 (stOf held)], cel e.2.2.2.2.1 95 [rgS held r e.2.2.2.2.2], cel e.2.2.2.2.2 71 [ptr (X.r true) 0, ptr (X.r false) 0]])
  | .more held => exA (ι := Nat × Nat × Nat) (fun _ => True) (fun e => [opC p (iT e.1) (fnV 84 [ptr e.2.1 0, ptr e.2.2 0]) 0 0 X.bx, tSwap e.1 X.m B.b (stOf held) 1, cel e.2.1 97 [ptr e.1 0], cel e.2.2 42 [ptr p 0]])
def ovA (X : BX) (p : Nat) (out val : Int) : Assn := exA (ι := Value × Value) (fun _ => True) (fun e => [opC p e.1 e.2 out val X.bx])
def postA (X : BX) (B : PB) (p : Nat) (po : PO) : Assn := if po.out = 0 then phA X B p po.ph else ovA X p po.out po.val
theorem post_go {X : BX} {B : PB} {p : Nat} {ph : Ph} {v : Int} {As R : List Assn} (h : ∀ h, Sat As h → Sat (phA X B p ph :: R) h) : ∀ h, Sat As h → Sat (postA X B p ⟨ph, 0, v⟩ :: R) h := by
  unfold postA; rw [if_pos (show ((⟨ph, 0, v⟩ : PO).out = 0) from rfl)]; exact h
theorem post_ov {X : BX} {B : PB} {p : Nat} {ph : Ph} {out v : Int} {As R : List Assn} (ho : out ≠ 0) (x y : Value) (h : ∀ h, Sat As h → Sat (opC p x y out v X.bx :: R) h) : ∀ h, Sat As h → Sat (postA X B p ⟨ph, out, v⟩ :: R) h := by
  unfold postA; rw [if_neg (show ¬ ((⟨ph, out, v⟩ : PO).out = 0) from ho)]; exact ex_close (x, y) trivial h
section
variable {P : Program} {f : FuncId} {args : List Value}
theorem fns_eq {As As' F Cs Ds : List Assn} {V : Value} (h : FnS P f args As (fun u Bs => u = V ∧ Bs = Cs)) (p : Part As As' F) (k : ∀ R h, Sat (Cs ++ (F ++ R)) h → Sat (Ds ++ R) h) : FnS P f args As' (fun u Bs => u = V ∧ Bs = Ds) :=
  fun W0 R w s => (h W0 (F ++ R) w (s.imp fun h s => by
    obtain ⟨h1, h2, d, rfl, s1, s2⟩ := Sat.split s
    have := Sat.append d (p.to s1) s2
    rwa [List.append_assoc] at this)).mono fun _ _ ⟨v, _, e, ⟨e2, rfl⟩, s⟩ => ⟨v, Ds, e, ⟨e2, rfl⟩, s.imp (k R)⟩
theorem fns_ex {ι : Type} {φ : ι → Prop} {l : ι → List Assn} {As : List Assn} {post : Value → List Assn → Prop} (h : ∀ x, φ x → FnS P f args (l x ++ As) post) : FnS P f args (exA φ l :: As) post :=
  fun W0 R w s => by
    obtain ⟨x, hp, hx⟩ := ex_open s.sat
    exact h x hp W0 R w ⟨s.os, s.tape, s.output, s.size, by rw [List.append_assoc]; exact hx⟩
end

set_option maxRecDepth 8000 in
theorem pStep_go (p bx T fS : Nat) (pv thn : Value) [TMeth Tryz.prog T "Step" fS] [TFunc Tryz.prog fS] (X Y : Assn) (hS : FnS Tryz.prog fS [pv] [X] (fun u Bs => u = .bool false ∧ Bs = [Y])) : FnS Tryz.prog 14 [ptr p 0] [opC p (.iface T pv) thn 0 0 bx, X] (fun u Bs => u = .bool false ∧ Bs = [opC p (.iface T pv) thn 0 0 bx, Y]) := by
 refine fn_body Tryz.func14 rfl rfl rfl ?_
 intro W0 R
 simp only [List.zipIdx_cons, List.zipIdx_nil, List.map_cons, List.map_nil, Nat.zero_add, Nat.reduceAdd, List.cons_append, List.nil_append]
 refine g_seq ?_
 refine g_region ?_
 refine gl_v rfl (o_assign rfl) ?_
 refine gl_nil ?_
 refine ge_then ?_
 refine g_seq ?_
 refine g_seq ?_
 refine g_region ?_
 refine gl_v rfl (o_move rfl) ?_
 refine gl_c rfl (o_call rfl (pOver_spec p bx _ _ 0 0) (by repeat (first | exact .nil | (apply Part.cons; · (repeat (first | exact .head | apply Sel.tail)))))) ?_
 rintro _ R ⟨_, ⟨rfl, rfl⟩, rfl⟩
 try simp only [List.cons_append, List.nil_append]
 refine gl_v rfl (o_is (c := true) (by rfl) (o_not rfl)) ?_
 refine gl_v rfl (o_move rfl) ?_
 refine gl_gT rfl rfl rfl ?_
 refine gl_v rfl (o_move rfl) ?_
 refine gl_gT rfl rfl rfl ?_
 refine gl_v rfl (o_nil rfl) ?_
 refine gl_gT rfl rfl rfl ?_
 first | refine gl_v rfl (o_fldS rfl) ?_ | refine gl_v rfl (o_fld rfl) ?_
 refine gl_gT rfl rfl rfl ?_
 first | refine gl_v rfl (o_load rfl rfl) ?_ | refine gl_v rfl (o_loadS rfl rfl) ?_ | refine gl_v rfl (o_loadC rfl) ?_
 refine gl_gT rfl rfl rfl ?_
 refine gl_c rfl (o_inv rfl rfl (hS) (by repeat (first | exact .nil | (apply Part.cons; · (repeat (first | exact .head | apply Sel.tail)))))) ?_
 rintro _ R ⟨_, ⟨rfl, rfl⟩, rfl⟩
 try simp only [List.cons_append, List.nil_append]
 refine gl_v rfl (o_pickT rfl rfl rfl) ?_
 refine gl_nil ?_
 refine ge_then ?_
 refine g_cond_false (rfl) ?_
 refine g_skip ?_
 refine ge_then ?_
 refine g_seq ?_
 refine g_region ?_
 refine gl_v rfl (o_move rfl) ?_
 refine gl_c rfl (o_call rfl (pOver_spec p bx _ _ 0 0) (by repeat (first | exact .nil | (apply Part.cons; · (repeat (first | exact .head | apply Sel.tail)))))) ?_
 rintro _ R ⟨_, ⟨rfl, rfl⟩, rfl⟩
 try simp only [List.cons_append, List.nil_append]
 refine gl_v rfl (o_assign rfl) ?_
 refine gl_nil ?_
 refine ge_then ?_
 refine g_ret ?_
 refine ret1 (.inl rfl) rfl rfl _ (⟨rfl, rfl⟩) (To.sat (by repeat (first | exact .nil | exact .done .refl | (apply To.cons; · (repeat (first | exact .head | apply Sel.tail))) | exact .done (by repeat (first | exact .refl | apply Drop.skip)))))

set_option maxRecDepth 8000 in
theorem pStep_then (p bx T fS F : Nat) (pv : Value) (caps : List Value) [TMeth Tryz.prog T "Step" fS] [TFunc Tryz.prog fS] [TFunc Tryz.prog F] (X Y K : Assn) (ov : Bool) (hS : FnS Tryz.prog fS [pv] [X] (fun u Bs => u = .bool true ∧ Bs = [Y])) (hT : FnS Tryz.prog F caps [opC p (.iface T pv) (fnV F caps) 0 0 bx, Y] (fun u Bs => u = .tuple #[] ∧ Bs = [K])) (hO : FnS Tryz.prog 11 [ptr p 0] [K] (fun u Bs => u = .bool ov ∧ Bs = [K])) : FnS Tryz.prog 14 [ptr p 0] [opC p (.iface T pv) (fnV F caps) 0 0 bx, X] (fun u Bs => u = .bool ov ∧ Bs = [K]) := by
 refine fn_body Tryz.func14 rfl rfl rfl ?_
 intro W0 R
 simp only [List.zipIdx_cons, List.zipIdx_nil, List.map_cons, List.map_nil, Nat.zero_add, Nat.reduceAdd, List.cons_append, List.nil_append]
 refine g_seq ?_
 refine g_region ?_
 refine gl_v rfl (o_assign rfl) ?_
 refine gl_nil ?_
 refine ge_then ?_
 refine g_seq ?_
 refine g_seq ?_
 refine g_region ?_
 refine gl_v rfl (o_move rfl) ?_
 refine gl_c rfl (o_call rfl (pOver_spec p bx _ _ 0 0) (by repeat (first | exact .nil | (apply Part.cons; · (repeat (first | exact .head | apply Sel.tail)))))) ?_
 rintro _ R ⟨_, ⟨rfl, rfl⟩, rfl⟩
 try simp only [List.cons_append, List.nil_append]
 refine gl_v rfl (o_is (c := true) (by rfl) (o_not rfl)) ?_
 refine gl_v rfl (o_move rfl) ?_
 refine gl_gT rfl rfl rfl ?_
 refine gl_v rfl (o_move rfl) ?_
 refine gl_gT rfl rfl rfl ?_
 refine gl_v rfl (o_nil rfl) ?_
 refine gl_gT rfl rfl rfl ?_
 first | refine gl_v rfl (o_fldS rfl) ?_ | refine gl_v rfl (o_fld rfl) ?_
 refine gl_gT rfl rfl rfl ?_
 first | refine gl_v rfl (o_load rfl rfl) ?_ | refine gl_v rfl (o_loadS rfl rfl) ?_ | refine gl_v rfl (o_loadC rfl) ?_
 refine gl_gT rfl rfl rfl ?_
 refine gl_c rfl (o_inv rfl rfl (hS) (by repeat (first | exact .nil | (apply Part.cons; · (repeat (first | exact .head | apply Sel.tail)))))) ?_
 rintro _ R ⟨_, ⟨rfl, rfl⟩, rfl⟩
 try simp only [List.cons_append, List.nil_append]
 refine gl_v rfl (o_pickT rfl rfl rfl) ?_
 refine gl_nil ?_
 refine ge_then ?_
 refine g_cond_true (rfl) ?_
 refine g_region ?_
 refine gl_v rfl (o_move rfl) ?_
 refine gl_v rfl (o_nil rfl) ?_
 first | refine gl_v rfl (o_fldS rfl) ?_ | refine gl_v rfl (o_fld rfl) ?_
 first | refine gl_v rfl (o_load rfl rfl) ?_ | refine gl_v rfl (o_loadS rfl rfl) ?_ | refine gl_v rfl (o_loadC rfl) ?_
 refine gl_c rfl (o_callV rfl rfl (hT) (by repeat (first | exact .nil | (apply Part.cons; · (repeat (first | exact .head | apply Sel.tail)))))) ?_
 rintro _ R ⟨_, ⟨rfl, rfl⟩, rfl⟩
 try simp only [List.cons_append, List.nil_append]
 refine gl_nil ?_
 refine ge_then ?_
 refine g_seq ?_
 refine g_region ?_
 refine gl_v rfl (o_move rfl) ?_
 refine gl_c rfl (o_call rfl (hO) (by repeat (first | exact .nil | (apply Part.cons; · (repeat (first | exact .head | apply Sel.tail)))))) ?_
 rintro _ R ⟨_, ⟨rfl, rfl⟩, rfl⟩
 try simp only [List.cons_append, List.nil_append]
 refine gl_v rfl (o_assign rfl) ?_
 refine gl_nil ?_
 refine ge_then ?_
 refine g_ret ?_
 refine ret1 (.inl rfl) rfl rfl _ (⟨rfl, rfl⟩) (To.sat (by repeat (first | exact .nil | exact .done .refl | (apply To.cons; · (repeat (first | exact .head | apply Sel.tail))) | exact .done (by repeat (first | exact .refl | apply Drop.skip)))))

theorem Over_post (X : BX) (B : PB) (p : Nat) (po : PO) : FnS Tryz.prog 11 [ptr p 0] [postA X B p po] (fun u Bs => u = .bool po.over ∧ Bs = [postA X B p po]) := by
  obtain ⟨ph, out, val⟩ := po
  by_cases ho : out = 0
  · subst ho
    have e : postA X B p ⟨ph, 0, val⟩ = phA X B p ph := by unfold postA; rw [if_pos rfl]
    rw [e]
    cases ph <;> exact fns_ex (fun x _ => fns_eq (pOver_spec p X.bx _ _ 0 0) (.cons .head .nil) (fun R => ex_close x trivial (fun h s => s)))
  · have e : postA X B p ⟨ph, out, val⟩ = ovA X p out val := by unfold postA; rw [if_neg (show ¬ ((⟨ph, out, val⟩ : PO).out = 0) from ho)]
    rw [e]
    exact fns_ex (fun x _ => fns_eq (pOver_spec p X.bx _ _ out val) (.cons .head .nil) (fun R => ex_close x trivial (fun h s => s)))

theorem Do_load (p τ bx m i : Nat) (x y thn : Value) (hth : thn.oneCell' = true) (out val : Int) : FnS Tryz.prog 54 [ptr p 0, iT τ, thn] [opC p x y out val bx, tLoad τ m i] (fun u Bs => u = .tuple #[] ∧ Bs = [opC p (iT τ) thn out val bx, tLoad τ m i]) := by
  refine fns_eq (As := [tLoad τ m i, opC p x y out val bx]) (F := []) (Cs := [opC p (iT τ) thn out val bx, tLoad τ m i]) (fns_ex (fun e _ => ?_)) (.cons (.tail .head) (.cons .head .nil)) (fun R h s => s)
  simp only [List.cons_append, List.nil_append]
  refine fns_eq (Do_touch p τ bx x y thn hth out val 0 _ false) (by repeat (first | exact .nil | (apply Part.cons; · (repeat (first | exact .head | apply Sel.tail))))) (fun R => ?_)
  simp only [List.cons_append, List.nil_append]
  exact fun h s => Sat.swap (ex_close e trivial (To.sat (by repeat (first | exact .nil | exact .done .refl | (apply To.cons; · (repeat (first | exact .head | apply Sel.tail))) | exact .done (by repeat (first | exact .refl | apply Drop.skip))))) h s)

theorem Do_swap (p τ bx m i : Nat) (a b : Int) (x y thn : Value) (hth : thn.oneCell' = true) (out val : Int) : FnS Tryz.prog 54 [ptr p 0, iT τ, thn] [opC p x y out val bx, tSwap τ m i a b] (fun u Bs => u = .tuple #[] ∧ Bs = [opC p (iT τ) thn out val bx, tSwap τ m i a b]) := by
  refine fns_eq (As := [tSwap τ m i a b, opC p x y out val bx]) (F := []) (Cs := [opC p (iT τ) thn out val bx, tSwap τ m i a b]) (fns_ex (fun e _ => ?_)) (.cons (.tail .head) (.cons .head .nil)) (fun R h s => s)
  simp only [List.cons_append, List.nil_append]
  refine fns_eq (Do_touch p τ bx x y thn hth out val 0 _ false) (by repeat (first | exact .nil | (apply Part.cons; · (repeat (first | exact .head | apply Sel.tail))))) (fun R => ?_)
  simp only [List.cons_append, List.nil_append]
  exact fun h s => Sat.swap (ex_close e trivial (To.sat (by repeat (first | exact .nil | exact .done .refl | (apply To.cons; · (repeat (first | exact .head | apply Sel.tail))) | exact .done (by repeat (first | exact .refl | apply Drop.skip))))) h s)

theorem Do_store (p τ bx m i : Nat) (a : Int) (x y thn : Value) (hth : thn.oneCell' = true) (out val : Int) : FnS Tryz.prog 54 [ptr p 0, iT τ, thn] [opC p x y out val bx, tStore τ m i a] (fun u Bs => u = .tuple #[] ∧ Bs = [opC p (iT τ) thn out val bx, tStore τ m i a]) := by
  refine fns_eq (As := [tStore τ m i a, opC p x y out val bx]) (F := []) (Cs := [opC p (iT τ) thn out val bx, tStore τ m i a]) (fns_ex (fun e _ => ?_)) (.cons (.tail .head) (.cons .head .nil)) (fun R h s => s)
  simp only [List.cons_append, List.nil_append]
  refine fns_eq (Do_touch p τ bx x y thn hth out val 0 _ false) (by repeat (first | exact .nil | (apply Part.cons; · (repeat (first | exact .head | apply Sel.tail))))) (fun R => ?_)
  simp only [List.cons_append, List.nil_append]
  exact fun h s => Sat.swap (ex_close e trivial (To.sat (by repeat (first | exact .nil | exact .done .refl | (apply To.cons; · (repeat (first | exact .head | apply Sel.tail))) | exact .done (by repeat (first | exact .refl | apply Drop.skip))))) h s)

end Go.Proofs.YtkpgcdhepfgfaaaGreat.L
