/-
  Calls that may panic: contracts with two ends, rules. Own work; it speaks of no program.
-/
import Derived.Test.YtgmdlhlmffdbhaaGreatDoorTree
import Derived.Test.YtgmdlhlmffdbhaaGreatDoorFam
set_option linter.unusedSimpArgs false
set_option linter.unusedVariables false
set_option linter.unusedSectionVars false
namespace Go.L
section
variable {P : Program} {W0 : World} {n : Nat} {sl : Slots} {As Bs R : List Assn} {Q : Exit → Act → World → Prop} {ops : Array Oper} {op : Op} {ty : TypeId} {pos : String} {aft : Array Edge} {rest : List Oper} {c : Code}
abbrev PX := List PanicEntry → List Assn → Prop
/-- what a call of f does: it returns, or it panics -/
def FnX (P : Program) (f : FuncId) (args : List Value) (As : List Assn) (post : Value → List Assn → Prop) (px : PX) : Prop :=
  ∀ (W0 : World) (R : List Assn) (w : World), St W0 (As ++ R) w →
    Calls P f args.toArray w fun e w' => (∃ v Bs, e = .returned v ∧ post v Bs ∧ St W0 (Bs ++ R) w') ∨ (∃ ch Bs, e = .panicked ch ∧ px ch Bs ∧ St W0 (Bs ++ R) w')
def FQX (P : Program) (W0 : World) (fn : Func) (post : Value → List Assn → Prop) (px : PX) (R : List Assn) : Exit → Act → World → Prop :=
  bodyPost P fn fun e w' => (∃ v Bs, e = .returned v ∧ post v Bs ∧ St W0 (Bs ++ R) w') ∨ (∃ ch Bs, e = .panicked ch ∧ px ch Bs ∧ St W0 (Bs ++ R) w')
theorem FnS.x {f : FuncId} {args : List Value} {post : Value → List Assn → Prop} (px : PX) (h : FnS P f args As post) : FnX P f args As post px :=
  fun W0 R w s => (h W0 R w s).mono fun _ _ h => .inl h
theorem FnX.s {f : FuncId} {args : List Value} {post : Value → List Assn → Prop} {px : PX} (h : FnX P f args As post px) (hn : ∀ ch Bs, ¬ px ch Bs) : FnS P f args As post :=
  fun W0 R w s => (h W0 R w s).mono fun _ _ h => h.elim id fun ⟨ch, Bs, _, hp, _⟩ => absurd hp (hn ch Bs)
theorem FnX.mono {f : FuncId} {args : List Value} {post post' : Value → List Assn → Prop} {px px' : PX} (h : FnX P f args As post px) (g : ∀ v Bs, post v Bs → post' v Bs) (k : ∀ ch Bs, px ch Bs → px' ch Bs) : FnX P f args As post' px' :=
  fun W0 R w s => (h W0 R w s).mono fun _ _ h => h.imp (fun ⟨v, Bs, e, p, s⟩ => ⟨v, Bs, e, g _ _ p, s⟩) (fun ⟨ch, Bs, e, p, s⟩ => ⟨ch, Bs, e, k _ _ p, s⟩)
theorem fnx_body {f : FuncId} {fn : Func} {args : List Value} {post : Value → List Assn → Prop} {px : PX} (hf : P.funcs[f]? = some fn) (hb : fn.body = some c) {N : Nat} (hn : fn.ntmps = N) (hl : Nat.ble args.length N = true)
    (h : ∀ W0 R, G P W0 N c (args.zipIdx.map fun (v, i) => (i, v)) (As ++ R) (FQX P W0 fn post px R)) : FnX P f args As post px := by
  intro W0 R w s
  subst hn
  exact calls_of_wp hf hb (h W0 R _ _ (slots_start args _ (Nat.le_of_ble_eq_true hl)) s)
theorem ge_x {fn : Func} {post : Value → List Assn → Prop} {px : PX} {e : Exit} (he : e = .ret ∨ e = .normal) (h : GE W0 n sl As (FQ P W0 fn post R e)) : GE W0 n sl As (FQX P W0 fn post px R e) := fun a w hs s => by
  rcases he with rfl | rfl
  · obtain ⟨h1, v, h2, h3⟩ := h a w hs s; exact ⟨h1, v, h2, .inl h3⟩
  · obtain ⟨h1, v, h2, h3⟩ := h a w hs s; exact ⟨h1, v, h2, .inl h3⟩
theorem ge_px {fn : Func} {post : Value → List Assn → Prop} {px : PX} {ch : List PanicEntry} (Bs : List Assn) (hp : px ch Bs) (hA : ∀ h, Sat As h → Sat (Bs ++ R) h) : GE W0 n sl As (FQX P W0 fn post px R (.panic ch)) :=
  fun a w hs s => ⟨hs.defers, .inr ⟨ch, Bs, rfl, hp, s.imp hA⟩⟩
theorem ge_then_px {K : Act → World → Prop} {ch : List PanicEntry} (h : GE W0 n sl As (Q (.panic ch))) : GE W0 n sl As (Exit.then K Q (.panic ch)) := h
theorem ge_block_px {id : Nat} {ch : List PanicEntry} (h : GE W0 n sl As (Q (.panic ch))) : GE W0 n sl As (Exit.inBlock id Q (.panic ch)) := h
/-- a call that may panic -/
def OCX (P : Program) (W0 : World) (n : Nat) (op : Op) (ty : TypeId) (sl : Slots) (As : List Assn) (p : Value → List Assn → Prop) (px : PX) : Prop :=
  ∀ a w d pos aft g, HasSl n sl a → St W0 As w → ∃ f args, (execOp a.eval ⟨d, op, ty, pos, aft, g⟩).run P w = .ok (.enter f args) w ∧
    Calls P f args w fun e w' => (∃ v Bs, e = .returned v ∧ p v Bs ∧ St W0 Bs w') ∨ (∃ ch Bs, e = .panicked ch ∧ px ch Bs ∧ St W0 Bs w')
theorem gl_cx {d : Nat} {p : Value → List Assn → Prop} {px : PX} (hd : Nat.blt d n = true) (hv : OCX P W0 n op ty sl As p px) (hx : ∀ ch Bs, px ch Bs → GE W0 n sl Bs (Q (.panic ch))) (h : ∀ v Bs, p v Bs → GL P W0 n ops rest ((d, v) :: sl) Bs Q) : GL P W0 n ops (⟨some d, op, ty, pos, aft, none⟩ :: rest) sl As Q :=
  fun a w hs s => wpList_plain rfl fun K hK => by
    obtain ⟨f, args, hr, hc⟩ := hv a w (some d) pos aft none hs s
    simp only [Oper.wp, hr, Oper.upon]
    exact hc.mono fun e w' he => by
      rcases he with ⟨v, Bs, rfl, hp, s'⟩ | ⟨ch, Bs, rfl, hp, s'⟩
      · exact hK _ _ (h v Bs hp _ _ (hs.put v hd) s')
      · exact hx ch Bs hp _ _ hs s'
theorem gl_cx0 {p : Value → List Assn → Prop} {px : PX} (hv : OCX P W0 n op ty sl As p px) (hx : ∀ ch Bs, px ch Bs → GE W0 n sl Bs (Q (.panic ch))) (h : ∀ v Bs, p v Bs → GL P W0 n ops rest sl Bs Q) : GL P W0 n ops (⟨none, op, ty, pos, aft, none⟩ :: rest) sl As Q :=
  fun a w hs s => wpList_plain rfl fun K hK => by
    obtain ⟨f, args, hr, hc⟩ := hv a w none pos aft none hs s
    simp only [Oper.wp, hr, Oper.upon]
    exact hc.mono fun e w' he => by
      rcases he with ⟨v, Bs, rfl, hp, s'⟩ | ⟨ch, Bs, rfl, hp, s'⟩
      · exact hK _ _ (h v Bs hp _ _ hs s')
      · exact hx ch Bs hp _ _ hs s'
theorem o_callX {f : FuncId} {xs : List Operand} {ts : Array TypeId} {vs : List Value} {pre F : List Assn} {post : Value → List Assn → Prop} {px : PX} [i : TFunc P f] (hx : opvs sl xs = some vs) (hf : FnX P f vs pre post px) (hp : Part pre As F) :
    OCX P W0 n (.call { callee := .value (.func f), args := xs.toArray, argTypes := ts }) ty sl As (fun v Bs => ∃ L, post v L ∧ Bs = L ++ F) (fun ch Bs => ∃ L, px ch L ∧ Bs = L ++ F) := fun a w d pos aft g hs s => by
  refine ⟨f, vs.toArray, ?_, ?_⟩
  · simp only [execOp, resolve, List.map_toArray, hs.evals hx, Act.eval]
    simp [Deferred.ofValue, invoke, run_callFunc]
  · exact (hf W0 F w (s.imp fun _ => hp.to)).mono fun e w' he => by
      rcases he with ⟨v, L, he, hq, s'⟩ | ⟨v, L, he, hq, s'⟩
      · exact .inl ⟨v, _, he, ⟨L, hq, rfl⟩, s'⟩
      · exact .inr ⟨v, _, he, ⟨L, hq, rfl⟩, s'⟩
theorem gl_panic {x : Operand} {t : TypeId} {v : Value} (hx : opv sl x = some (.iface t v)) (h : GE W0 n sl As (Q (.panic [{ v := .iface t v, recovered := false }]))) : GL P W0 n ops (⟨none, .panic x, ty, pos, aft, none⟩ :: rest) sl As Q :=
  fun a w hs s => wpList_plain rfl fun K hK => by
    have hr : (execOp a.eval ⟨none, .panic x, ty, pos, aft, none⟩).run P w = .halt (.panic (.iface t v)) w := by
      simp only [execOp, hs.eval hx]; rfl
    simp only [Oper.wp, hr, Oper.upon]
    exact h a w hs s
end
end Go.L
