/-
  Rules for code in a frame that has deferred calls; a function that defers. Own work; it speaks of no program.
-/
import Derived.Test.YtgmdlhlmffdbhaaGreatDoorDrawX
import Derived.Recover
set_option linter.unusedSimpArgs false
set_option linter.unusedVariables false
set_option linter.unusedSectionVars false
namespace Go.L.DD
open Go.L
section
variable {ds : List Deferred} {P : Program} {W0 : World} {n : Nat} {sl : Slots} {As Bs R : List Assn} {Q : Exit → Act → World → Prop} {ops : Array Oper} {op : Op} {ty : TypeId} {pos : String} {aft : Array Edge} {rest : List Oper} {c c1 c2 : Code}
def G (ds : List Deferred) (P : Program) (W0 : World) (n : Nat) (c : Code) (sl : Slots) (As : List Assn) (Q : Exit → Act → World → Prop) : Prop :=
  ∀ a w, HasSlD ds n sl a → St W0 As w → c.wp P Q a w
def GL (ds : List Deferred) (P : Program) (W0 : World) (n : Nat) (ops : Array Oper) (l : List Oper) (sl : Slots) (As : List Assn) (Q : Exit → Act → World → Prop) : Prop :=
  ∀ a w, HasSlD ds n sl a → St W0 As w → wpList P ops Q l a w
def GE (ds : List Deferred) (W0 : World) (n : Nat) (sl : Slots) (As : List Assn) (F : Act → World → Prop) : Prop :=
  ∀ a w, HasSlD ds n sl a → St W0 As w → F a w
theorem g_imp (f : ∀ h, Sat As h → Sat Bs h) (h : G ds P W0 n c sl Bs Q) : G ds P W0 n c sl As Q := fun a w hs s => h a w hs (s.imp f)
theorem gl_imp {l : List Oper} (f : ∀ h, Sat As h → Sat Bs h) (h : GL ds P W0 n ops l sl Bs Q) : GL ds P W0 n ops l sl As Q := fun a w hs s => h a w hs (s.imp f)
theorem ge_imp {F : Act → World → Prop} (f : ∀ h, Sat As h → Sat Bs h) (h : GE ds W0 n sl Bs F) : GE ds W0 n sl As F := fun a w hs s => h a w hs (s.imp f)
theorem g_seq (h : G ds P W0 n c1 sl As (Exit.then (c2.wp P Q) Q)) : G ds P W0 n (.seq c1 c2) sl As Q := fun a w hs s => wp_seq (h a w hs s)
theorem ge_then (h : G ds P W0 n c2 sl As Q) : GE ds W0 n sl As (Exit.then (c2.wp P Q) Q .normal) := h
theorem ge_then_exit {K : Act → World → Prop} {id : Nat} (h : GE ds W0 n sl As (Q (.exit id))) : GE ds W0 n sl As (Exit.then K Q (.exit id)) := h
theorem ge_then_ret {K : Act → World → Prop} (h : GE ds W0 n sl As (Q .ret)) : GE ds W0 n sl As (Exit.then K Q .ret) := h
theorem ge_block {id : Nat} (h : GE ds W0 n sl As (Q .normal)) : GE ds W0 n sl As (Exit.inBlock id Q .normal) := h
theorem ge_block_exit {id : Nat} (h : GE ds W0 n sl As (Q .normal)) : GE ds W0 n sl As (Exit.inBlock id Q (.exit id)) := fun a w hs s => by
  simp only [Exit.inBlock, if_true]; exact h a w hs s
theorem ge_block_ret {id : Nat} (h : GE ds W0 n sl As (Q .ret)) : GE ds W0 n sl As (Exit.inBlock id Q .ret) := h
theorem g_block {id : Nat} (h : G ds P W0 n c sl As (Exit.inBlock id Q)) : G ds P W0 n (.block id c) sl As Q := fun a w hs s => wp_block (h a w hs s)
theorem g_skip (h : GE ds W0 n sl As (Q .normal)) : G ds P W0 n .skip sl As Q := fun a w hs s => wp_skip (h a w hs s)
theorem g_exit {id : Nat} (h : GE ds W0 n sl As (Q (.exit id))) : G ds P W0 n (.exit id) sl As Q := fun a w hs s => wp_exit (h a w hs s)
theorem g_ret (h : GE ds W0 n sl As (Q .ret)) : G ds P W0 n .ret sl As Q := fun a w hs s => wp_ret (h a w hs s)
theorem g_cond {x : Operand} {b : Bool} (hx : opv sl x = some (.bool b)) (ht : b = true → G ds P W0 n c1 sl As Q) (hf : b = false → G ds P W0 n c2 sl As Q) : G ds P W0 n (.cond x c1 c2) sl As Q :=
  fun a w hs s => wp_cond_split (hs.eval hx) (fun e => ht e a w hs s) (fun e => hf e a w hs s)
theorem g_region {id : Nat} {l : List Oper} (h : GL ds P W0 n l.toArray l sl As Q) : G ds P W0 n (.region id l.toArray false) sl As Q := fun a w hs s => wp_region_lit (h a w hs s)
theorem gl_nil (h : GE ds W0 n sl As (Q .normal)) : GL ds P W0 n ops [] sl As Q := h
theorem gl_v {v : Value} {d : Nat} (hd : Nat.blt d n = true) (hv : OV P W0 n op ty sl As v) (h : GL ds P W0 n ops rest ((d, v) :: sl) As Q) : GL ds P W0 n ops (⟨some d, op, ty, pos, aft, none⟩ :: rest) sl As Q :=
  fun a w hs s => wpList_plain rfl fun K hK => by
    simp only [Oper.wp, (show (execOp a.eval _).run P w = _ from hv { a with defers := [] } w (some d) pos aft none hs.has s), Oper.upon]
    exact hK _ _ (h _ _ (hs.put v hd) s)
theorem gl_u (hv : OU P W0 n op ty sl As Bs) (h : GL ds P W0 n ops rest sl Bs Q) : GL ds P W0 n ops (⟨none, op, ty, pos, aft, none⟩ :: rest) sl As Q :=
  fun a w hs s => wpList_plain rfl fun K hK => by
    obtain ⟨w', hr, s'⟩ := hv { a with defers := [] } w none pos aft none hs.has s
    simp only [Oper.wp, (show (execOp a.eval _).run P w = _ from hr), Oper.upon]
    exact hK _ _ (h _ _ hs s')
theorem gl_n {d : Nat} {p : Value → List Assn → Prop} (hd : Nat.blt d n = true) (hv : ON P W0 n op ty sl As p) (h : ∀ v Bs, p v Bs → GL ds P W0 n ops rest ((d, v) :: sl) Bs Q) : GL ds P W0 n ops (⟨some d, op, ty, pos, aft, none⟩ :: rest) sl As Q :=
  fun a w hs s => wpList_plain rfl fun K hK => by
    obtain ⟨v, Bs, w', hr, hp, s'⟩ := hv { a with defers := [] } w (some d) pos aft none hs.has s
    simp only [Oper.wp, (show (execOp a.eval _).run P w = _ from hr), Oper.upon]
    exact hK _ _ (h v Bs hp _ _ (hs.put v hd) s')
theorem gl_c {d : Nat} {p : Value → List Assn → Prop} (hd : Nat.blt d n = true) (hv : OC P W0 n op ty sl As p) (h : ∀ v Bs, p v Bs → GL ds P W0 n ops rest ((d, v) :: sl) Bs Q) : GL ds P W0 n ops (⟨some d, op, ty, pos, aft, none⟩ :: rest) sl As Q :=
  fun a w hs s => wpList_plain rfl fun K hK => by
    obtain ⟨f, args, hr, hc⟩ := hv { a with defers := [] } w (some d) pos aft none hs.has s
    simp only [Oper.wp, (show (execOp a.eval _).run P w = _ from hr), Oper.upon]
    exact hc.mono fun e w' ⟨v, Bs, he, hp, s'⟩ => by subst he; exact hK _ _ (h v Bs hp _ _ (hs.put v hd) s')
theorem gl_cx {d : Nat} {p : Value → List Assn → Prop} {px : PX} (hd : Nat.blt d n = true) (hv : OCX P W0 n op ty sl As p px) (hx : ∀ ch Bs, px ch Bs → GE ds W0 n sl Bs (Q (.panic ch))) (h : ∀ v Bs, p v Bs → GL ds P W0 n ops rest ((d, v) :: sl) Bs Q) : GL ds P W0 n ops (⟨some d, op, ty, pos, aft, none⟩ :: rest) sl As Q :=
  fun a w hs s => wpList_plain rfl fun K hK => by
    obtain ⟨f, args, hr, hc⟩ := hv { a with defers := [] } w (some d) pos aft none hs.has s
    simp only [Oper.wp, (show (execOp a.eval _).run P w = _ from hr), Oper.upon]
    exact hc.mono fun e w' he => by
      rcases he with ⟨v, Bs, rfl, hp, s'⟩ | ⟨ch, Bs, rfl, hp, s'⟩
      · exact hK _ _ (h v Bs hp _ _ (hs.put v hd) s')
      · exact hx ch Bs hp _ _ hs s'
/-- a loop -/
theorem g_loop {ι : Type} (I : ι → Prop) (si : ι → Slots) (Ai : ι → List Assn) (μ : ι → Nat) (x0 : ι) (h0 : I x0) (hk : Keep (si x0) sl) (hA : ∀ h, Sat As h → Sat (Ai x0) h)
    (round : ∀ x, I x → G ds P W0 n c (si x) (Ai x) (Exit.then (fun a w => ∃ y, I y ∧ μ y < μ x ∧ HasSlD ds n (si y) a ∧ St W0 (Ai y) w) Q)) : G ds P W0 n (.loop c) sl As Q := by
  intro a w hs s
  have key : ∀ m x a w, μ x = m → I x → HasSlD ds n (si x) a → St W0 (Ai x) w →
      ∀ b k cs, ∃ e a' w', Q e a' w' ∧ Arrives P (lone (b.at a (.code c :: .inLoop c :: k)) cs w) b k cs e a' w' := by
    intro m
    induction m using Nat.strongRecOn with
    | _ m ih =>
      intro x a w hm hI hs s b k cs
      obtain ⟨e, a₁, w₁, hq, harr⟩ := round x hI a w hs s b (.inLoop c :: k) cs
      cases e with
      | normal =>
        obtain ⟨y, hIy, hlt, hsy, sy⟩ := hq
        obtain ⟨e₂, a₂, w₂, hq₂, harr₂⟩ := ih (μ y) (hm ▸ hlt) y a₁ w₁ rfl hIy hsy sy b k cs
        exact ⟨e₂, a₂, w₂, hq₂, .of_steps (Steps.trans harr (.one step_inLoop)) harr₂⟩
      | exit id => exact ⟨_, a₁, w₁, hq, .pass (x := .inLoop c) rfl (fun _ _ => .inl (by simp)) harr⟩
      | goto l => exact ⟨_, a₁, w₁, hq, .pass (x := .inLoop c) rfl (fun _ _ => .inl (by simp)) harr⟩
      | ret => exact ⟨_, a₁, w₁, hq, .pass (x := .inLoop c) rfl (fun _ _ => .inl (by simp)) harr⟩
      | panic ch => exact ⟨_, a₁, w₁, hq, .pass (x := .inLoop c) rfl (fun _ _ => .inl (by simp)) harr⟩
      | outgrown => exact ⟨_, a₁, w₁, hq, .pass (x := .inLoop c) rfl (fun _ _ => .inl (by simp)) harr⟩
  intro b k cs
  obtain ⟨e, a', w', hq, harr⟩ := key _ x0 a w rfl h0 (hs.keep hk) (s.imp hA) b k cs
  exact ⟨e, a', w', hq, .of_steps (.one step_loop) harr⟩
theorem ge_round {ι : Type} {I : ι → Prop} {si : ι → Slots} {Ai : ι → List Assn} {μ : ι → Nat} {m : Nat} (y : ι) (h0 : I y) (hm : μ y < m) (hk : Keep (si y) sl) (hA : ∀ h, Sat As h → Sat (Ai y) h) :
    GE ds W0 n sl As (Exit.then (fun a w => ∃ y, I y ∧ μ y < m ∧ HasSlD ds n (si y) a ∧ St W0 (Ai y) w) Q .normal) :=
  fun _ _ hs s => ⟨y, h0, hm, hs.keep hk, s.imp hA⟩
theorem g_open {ι : Type} {φ : ι → Prop} {l : ι → List Assn} (s : Sel (exA φ l) As R) (h : ∀ x, φ x → G ds P W0 n c sl (l x ++ R) Q) : G ds P W0 n c sl As Q := fun a w hs st => by
  obtain ⟨x, p, hx⟩ := ex_open (s.to st.sat)
  exact h x p a w hs ⟨st.os, st.tape, st.output, st.size, hx⟩
end
end Go.L.DD
namespace Go.L
section
variable {P : Program} {W0 : World} {n : Nat} {sl : Slots} {As Bs R : List Assn} {Q : Exit → Act → World → Prop} {ops : Array Oper} {op : Op} {ty : TypeId} {pos : String} {aft : Array Edge} {rest : List Oper} {c c1 c2 : Code} {fn : Func} {post : Value → List Assn → Prop}
/-- a call is deferred: from here on the frame has it -/
theorem gl_defer {x : Operand} {f : FuncId} {cap : List Value} (hx : opv sl x = some (.func (.func f) #[] cap.toArray))
    (h : DD.GL [⟨.fn (.func f) cap.toArray, #[]⟩] P W0 n ops rest sl As Q) : GL P W0 n ops (⟨none, .defer { callee := .value x, args := #[], argTypes := #[] }, ty, pos, aft, none⟩ :: rest) sl As Q :=
  fun a w hs s => wpList_plain rfl fun K hK => by
    have hr : (execOp a.eval ⟨none, .defer { callee := .value x, args := #[], argTypes := #[] }, ty, pos, aft, none⟩).run P w = .ok (.defer ⟨.fn (.func f) cap.toArray, #[]⟩) w := by
      simp [execOp, resolve, hs.eval hx, Deferred.ofValue]
    simp only [Oper.wp, hr, Oper.upon]
    have hd := hs.defers
    refine hK _ _ (h _ w ⟨?_, ?_⟩ s)
    · have e : ({ (({ a with defers := ⟨.fn (.func f) cap.toArray, #[]⟩ :: a.defers } : Act).put none undef) with defers := [] } : Act) = a := by cases a; simp at hd; subst hd; rfl
      rw [e]; exact hs
    · show (⟨.fn (.func f) cap.toArray, #[]⟩ : Deferred) :: a.defers = _
      rw [hd]
/-- a function that defers, by its body -/
theorem fnd_body {f : FuncId} {args : List Value} (hf : P.funcs[f]? = some fn) (hb : fn.body = some c) {N : Nat} (hn : fn.ntmps = N) (hl : Nat.ble args.length N = true)
    (h : ∀ W0 R, G P W0 N c (args.zipIdx.map fun (v, i) => (i, v)) (As ++ R) (bodyPostD P fn fun e w' => ∃ v Bs, e = .returned v ∧ post v Bs ∧ St W0 (Bs ++ R) w')) : FnS P f args As post := by
  intro W0 R w s
  subst hn
  exact calls_of_wp_defers hf hb (h W0 R _ _ (slots_start args _ (Nat.le_of_ble_eq_true hl)) s)
/-- an end ahead of any deferring -/
theorem ge_d0 {e : Exit} (he : e = .ret ∨ e = .normal) (h : GE W0 n sl As (FQ P W0 fn post R e)) : GE W0 n sl As (bodyPostD P fn (fun e w' => ∃ v Bs, e = .returned v ∧ post v Bs ∧ St W0 (Bs ++ R) w') e) := fun a w hs s => by
  rcases he with rfl | rfl
  · obtain ⟨h1, v, h2, h3⟩ := h a w hs s; show Leaves P fn a.tmps _ a.defers .returning w; rw [h1]; exact ⟨v, h2, h3⟩
  · obtain ⟨h1, v, h2, h3⟩ := h a w hs s; show Leaves P fn a.tmps _ a.defers .returning w; rw [h1]; exact ⟨v, h2, h3⟩
/-! the closure's own region -/
variable {QS : Exit → Act → List Frame → World → Prop} {a : Act} {cs cs' : List Frame} {w : World}
theorem wpS_v {i d : Nat} {rest : List Nat} {v : Value} (ho : ops[i]? = some ⟨some d, op, ty, pos, aft, none⟩) (hd : Nat.blt d n = true) (hs : HasSl n sl a) (s : St W0 As w) (hv : OV P W0 n op ty sl As v) (h : ∀ a, HasSl n ((d, v) :: sl) a → wpOpsS P ops QS rest a cs w) : wpOpsS P ops QS (i :: rest) a cs w := by
  have hr := hv a w (some d) pos aft none hs s
  simp only [wpOpsS, ho, Region.wanted, if_true, hr, Oper.upon]
  exact h _ (hs.put v hd)
theorem wpS_rec {i d : Nat} {rest : List Nat} {v : Value} (ho : ops[i]? = some ⟨some d, .call { callee := .builtin .recover, args := #[], argTypes := #[] }, ty, pos, aft, none⟩) (hd : Nat.blt d n = true) (hs : HasSl n sl a) (hc : recoverD cs = some (v, cs')) (h : ∀ a, HasSl n ((d, v) :: sl) a → wpOpsS P ops QS rest a cs' w) : wpOpsS P ops QS (i :: rest) a cs w := by
  have hr : (execOp a.eval ⟨some d, .call { callee := .builtin .recover, args := #[], argTypes := #[] }, ty, pos, aft, none⟩).run P w = .ok .recover w := rfl
  simp only [wpOpsS, ho, Region.wanted, if_true, hr, hc]
  exact h _ (hs.put v hd)
theorem wpS_rec0 {i d : Nat} {rest : List Nat} (ho : ops[i]? = some ⟨some d, .call { callee := .builtin .recover, args := #[], argTypes := #[] }, ty, pos, aft, none⟩) (hd : Nat.blt d n = true) (hs : HasSl n sl a) (hc : recoverD cs = none) (h : ∀ a, HasSl n ((d, .nilIface) :: sl) a → wpOpsS P ops QS rest a cs w) : wpOpsS P ops QS (i :: rest) a cs w := by
  have hr : (execOp a.eval ⟨some d, .call { callee := .builtin .recover, args := #[], argTypes := #[] }, ty, pos, aft, none⟩).run P w = .ok .recover w := rfl
  simp only [wpOpsS, ho, Region.wanted, if_true, hr, hc]
  exact h _ (hs.put _ hd)
theorem o_tas {x : Operand} {xt t : TypeId} {v : Value} {d : TypeDesc} (hu : P.underlying t = some d) (hd : (match d with | .interface _ => false | _ => true) = true) (hx : opv sl x = some (.iface t v)) : OV P W0 n (.typeAssert x xt t true) ty sl As (.tuple #[v, .bool true]) := fun a w d' pos aft g hs _ => by
  simp only [execOp, hs.eval hx, Instr.typeAssert]
  cases d <;> first | (cases hd; done) | simp [rU hu]
theorem o_tasn {x : Operand} {xt t : TypeId} {z : Value} {d : TypeDesc} (hu : P.underlying t = some d) (hd : (match d with | .interface _ => false | _ => true) = true) [i : TZero P t z] (hx : opv sl x = some .nilIface) : OV P W0 n (.typeAssert x xt t true) ty sl As (.tuple #[z, .bool false]) := fun a w d' pos aft g hs _ => by
  obtain ⟨inf, h1, h2⟩ := i.out
  simp only [execOp, hs.eval hx, Instr.typeAssert]
  cases d <;> first | (cases hd; done) | simp [rU hu, rZ h1 h2]
end
end Go.L
