/-
  Rules for code over slots and heaps in parts; a call's contract; loops. Own work; it speaks of no program.
-/
import Derived.Test.YtcglaiacohkaeaaDoorCore
set_option linter.unusedSimpArgs false
set_option linter.unusedVariables false
set_option linter.unusedSectionVars false
namespace Go.L
/-! a test's outcome, in words that arithmetic reads -/
theorem lt_f {a b : Int} (h : decide (a < b) = false) : b ≤ a := by simpa using h
theorem le_f {a b : Int} (h : decide (a ≤ b) = false) : b < a := by simpa using h
theorem dec_f {p : Prop} [Decidable p] (h : decide p = false) : ¬ p := of_decide_eq_false h
theorem nlt_t {a b : Int} (h : (!decide (a < b)) = true) : b ≤ a := by simpa using h
theorem nle_t {a b : Int} (h : (!decide (a ≤ b)) = true) : b < a := by simpa using h
theorem ndec_t {p : Prop} [Decidable p] (h : (!decide p) = true) : ¬ p := by simpa using h
theorem ndec_f {p : Prop} [Decidable p] (h : (!decide p) = false) : p := by simpa using h
theorem nn_t {b : Bool} (h : (!b) = true) : b = false := by simpa using h
theorem nn_f {b : Bool} (h : (!b) = false) : b = true := by simpa using h
/-- what a comparison's outcome says -/
class Hs (A : Prop) (B : outParam Prop) : Prop where
  hs : A → B
theorem hs_ {A B : Prop} [i : Hs A B] (h : A) : B := i.hs h
instance (priority := 10) {A : Prop} : Hs A A := ⟨id⟩
instance (priority := 20) {b : Bool} : Hs ((!b) = false) (b = true) := ⟨nn_f⟩
instance (priority := 30) {b : Bool} : Hs ((!b) = true) (b = false) := ⟨nn_t⟩
instance (priority := 40) {p : Prop} [Decidable p] : Hs ((!decide p) = false) p := ⟨ndec_f⟩
instance (priority := 50) {p : Prop} [Decidable p] : Hs ((!decide p) = true) (¬ p) := ⟨ndec_t⟩
instance (priority := 60) {a b : Int} : Hs ((!decide (a ≤ b)) = true) (b < a) := ⟨nle_t⟩
instance (priority := 70) {a b : Int} : Hs ((!decide (a < b)) = true) (b ≤ a) := ⟨nlt_t⟩
instance (priority := 80) {p : Prop} [Decidable p] : Hs (decide p = false) (¬ p) := ⟨dec_f⟩
instance (priority := 90) {a b : Int} : Hs (decide (a ≤ b) = false) (b < a) := ⟨le_f⟩
instance (priority := 100) {a b : Int} : Hs (decide (a < b) = false) (b ≤ a) := ⟨lt_f⟩
instance (priority := 110) {p : Prop} [Decidable p] : Hs (decide p = true) p := ⟨of_decide_eq_true⟩
instance (priority := 200) {b : Bool} {B : Prop} [i : Hs (b = false) B] : Hs (b = !true) B := ⟨i.hs⟩
instance (priority := 210) {b : Bool} {B : Prop} [i : Hs (b = true) B] : Hs (b = !false) B := ⟨i.hs⟩
section
variable {P : Program} {W0 : World} {n : Nat}

/-- code 'c', begun with these slots and this memory, comes to 'Q' -/
def G (P : Program) (W0 : World) (n : Nat) (c : Code) (sl : Slots) (As : List Assn) (Q : Exit → Act → World → Prop) : Prop :=
  ∀ a w, HasSl n sl a → St W0 As w → c.wp P Q a w
def GL (P : Program) (W0 : World) (n : Nat) (ops : Array Oper) (l : List Oper) (sl : Slots) (As : List Assn) (Q : Exit → Act → World → Prop) : Prop :=
  ∀ a w, HasSl n sl a → St W0 As w → wpList P ops Q l a w
def GE (W0 : World) (n : Nat) (sl : Slots) (As : List Assn) (F : Act → World → Prop) : Prop :=
  ∀ a w, HasSl n sl a → St W0 As w → F a w

/-- what a call of f does, whatever else there is in memory -/
def FnS (P : Program) (f : FuncId) (args : List Value) (As : List Assn) (post : Value → List Assn → Prop) : Prop :=
  ∀ (W0 : World) (R : List Assn) (w : World), St W0 (As ++ R) w →
    Calls P f args.toArray w fun e w' => ∃ v Bs, e = .returned v ∧ post v Bs ∧ St W0 (Bs ++ R) w'
/-- where a body ends -/
def FQ (P : Program) (W0 : World) (fn : Func) (post : Value → List Assn → Prop) (R : List Assn) : Exit → Act → World → Prop :=
  bodyPost P fn fun e w' => ∃ v Bs, e = .returned v ∧ post v Bs ∧ St W0 (Bs ++ R) w'

variable {sl : Slots} {As Bs : List Assn} {Q : Exit → Act → World → Prop} {c c1 c2 : Code} {ops : Array Oper}

theorem FnS.mono {f : FuncId} {args : List Value} {post post' : Value → List Assn → Prop} (h : FnS P f args As post) (g : ∀ v Bs, post v Bs → post' v Bs) : FnS P f args As post' :=
  fun W0 R w s => (h W0 R w s).mono fun _ _ ⟨v, Bs, e, p, s⟩ => ⟨v, Bs, e, g _ _ p, s⟩

theorem g_imp (f : ∀ h, Sat As h → Sat Bs h) (h : G P W0 n c sl Bs Q) : G P W0 n c sl As Q := fun a w hs s => h a w hs (s.imp f)
theorem gl_imp {l : List Oper} (f : ∀ h, Sat As h → Sat Bs h) (h : GL P W0 n ops l sl Bs Q) : GL P W0 n ops l sl As Q := fun a w hs s => h a w hs (s.imp f)
theorem ge_imp {F : Act → World → Prop} (f : ∀ h, Sat As h → Sat Bs h) (h : GE W0 n sl Bs F) : GE W0 n sl As F := fun a w hs s => h a w hs (s.imp f)
theorem g_keep {r : Slots} (k : Keep r sl) (h : G P W0 n c r As Q) : G P W0 n c sl As Q := fun a w hs s => h a w (hs.keep k) s
theorem ge_keep {r : Slots} {F : Act → World → Prop} (k : Keep r sl) (h : GE W0 n r As F) : GE W0 n sl As F := fun a w hs s => h a w (hs.keep k) s

theorem g_seq (h : G P W0 n c1 sl As (Exit.then (c2.wp P Q) Q)) : G P W0 n (.seq c1 c2) sl As Q := fun a w hs s => wp_seq (h a w hs s)
/-- what stands between two pieces of code is said in one word -/
theorem g_cut (M : Act → World → Prop) (h : G P W0 n c1 sl As (Exit.then M Q)) (h2 : ∀ a w, M a w → c2.wp P Q a w) : G P W0 n (.seq c1 c2) sl As Q :=
  fun a w hs s => wp_seq_k (P := P) fun _ hK => wp_mono (h a w hs s) fun e a w q => by cases e <;> first | exact hK _ _ (h2 _ _ q) | exact q
theorem g_of {a : Act} {w : World} (h : G P W0 n c sl As Q) (hs : HasSl n sl a) (s : St W0 As w) : c.wp P Q a w := h a w hs s
theorem ge_then (h : G P W0 n c2 sl As Q) : GE W0 n sl As (Exit.then (c2.wp P Q) Q .normal) := h
theorem ge_block {id : Nat} (h : GE W0 n sl As (Q .normal)) : GE W0 n sl As (Exit.inBlock id Q .normal) := h
theorem ge_block_exit {id : Nat} (h : GE W0 n sl As (Q .normal)) : GE W0 n sl As (Exit.inBlock id Q (.exit id)) := fun a w hs s => by
  simp only [Exit.inBlock, if_true]; exact h a w hs s
theorem ge_block_pass {id id' : Nat} (hne : Nat.beq id' id = false) (h : GE W0 n sl As (Q (.exit id'))) : GE W0 n sl As (Exit.inBlock id Q (.exit id')) := fun a w hs s => by
  have : id' ≠ id := fun e => by subst e; rw [Nat.beq_refl] at hne; cases hne
  simp only [Exit.inBlock, if_neg this]; exact h a w hs s
theorem ge_then_exit {K : Act → World → Prop} {id : Nat} (h : GE W0 n sl As (Q (.exit id))) : GE W0 n sl As (Exit.then K Q (.exit id)) := h
theorem ge_then_ret {K : Act → World → Prop} (h : GE W0 n sl As (Q .ret)) : GE W0 n sl As (Exit.then K Q .ret) := h
theorem ge_block_ret {id : Nat} (h : GE W0 n sl As (Q .ret)) : GE W0 n sl As (Exit.inBlock id Q .ret) := h
theorem g_block {id : Nat} (h : G P W0 n c sl As (Exit.inBlock id Q)) : G P W0 n (.block id c) sl As Q := fun a w hs s => wp_block (h a w hs s)
theorem g_skip (h : GE W0 n sl As (Q .normal)) : G P W0 n .skip sl As Q := fun a w hs s => wp_skip (h a w hs s)
theorem g_exit {id : Nat} (h : GE W0 n sl As (Q (.exit id))) : G P W0 n (.exit id) sl As Q := fun a w hs s => wp_exit (h a w hs s)
theorem g_ret (h : GE W0 n sl As (Q .ret)) : G P W0 n .ret sl As Q := fun a w hs s => wp_ret (h a w hs s)
theorem g_cond {x : Operand} {b : Bool} (hx : opv sl x = some (.bool b)) (ht : b = true → G P W0 n c1 sl As Q) (hf : b = false → G P W0 n c2 sl As Q) : G P W0 n (.cond x c1 c2) sl As Q :=
  fun a w hs s => wp_cond_split (hs.eval hx) (fun e => ht e a w hs s) (fun e => hf e a w hs s)
theorem g_cond_true {x : Operand} (hx : opv sl x = some (.bool true)) (h : G P W0 n c1 sl As Q) : G P W0 n (.cond x c1 c2) sl As Q :=
  fun a w hs s => wp_cond_true (hs.eval hx) (h a w hs s)
theorem g_cond_false {x : Operand} (hx : opv sl x = some (.bool false)) (h : G P W0 n c2 sl As Q) : G P W0 n (.cond x c1 c2) sl As Q :=
  fun a w hs s => wp_cond_false (hs.eval hx) (h a w hs s)
theorem g_region {id : Nat} {l : List Oper} (h : GL P W0 n l.toArray l sl As Q) : G P W0 n (.region id l.toArray false) sl As Q := fun a w hs s => wp_region_lit (h a w hs s)
theorem gl_nil (h : GE W0 n sl As (Q .normal)) : GL P W0 n ops [] sl As Q := h

/-- a loop: 'I x': what holds at a round's head, slots 'si x', memory 'Ai x'; 'μ' falls -/
theorem g_loop {ι : Type} (I : ι → Prop) (si : ι → Slots) (Ai : ι → List Assn) (μ : ι → Nat) (x0 : ι) (h0 : I x0) (hk : Keep (si x0) sl) (hA : ∀ h, Sat As h → Sat (Ai x0) h)
    (round : ∀ x, I x → G P W0 n c (si x) (Ai x) (Exit.then (fun a w => ∃ y, I y ∧ μ y < μ x ∧ HasSl n (si y) a ∧ St W0 (Ai y) w) Q)) : G P W0 n (.loop c) sl As Q := by
  intro a w hs s
  have key : ∀ m x a w, μ x = m → I x → HasSl n (si x) a → St W0 (Ai x) w →
      ∀ b k cs, ∃ e a' w', Q e a' w' ∧ Arrives P (lone (b.at a (.code c :: .inLoop c :: k)) cs w) b k cs e a' w' := by
    intro m
    induction m using Nat.strongRecOn with
    | _ m ih =>
      intro x a w hm hI hs s b k cs
      obtain ⟨e, a₁, w₁, hq, harr⟩ := round x hI a w hs s b (.inLoop c :: k) cs
      cases e with
      | normal =>
        obtain ⟨y, hIy, hlt, hsy, sy⟩ := hq
        obtain ⟨e₂, a₂, w₂, hq₂, harr₂⟩ := ih (μ y) (hm ▸ hlt) y a₁ w₁ rfl hIy hsy sy b k cs
        exact ⟨e₂, a₂, w₂, hq₂, .of_steps (Steps.trans harr (.one step_inLoop)) harr₂⟩
      | exit id => exact ⟨_, a₁, w₁, hq, .pass (x := .inLoop c) rfl (fun _ _ => .inl (by simp)) harr⟩
      | goto l => exact ⟨_, a₁, w₁, hq, .pass (x := .inLoop c) rfl (fun _ _ => .inl (by simp)) harr⟩
      | ret => exact ⟨_, a₁, w₁, hq, .pass (x := .inLoop c) rfl (fun _ _ => .inl (by simp)) harr⟩
      | panic ch => exact ⟨_, a₁, w₁, hq, .pass (x := .inLoop c) rfl (fun _ _ => .inl (by simp)) harr⟩
      | outgrown => exact ⟨_, a₁, w₁, hq, .pass (x := .inLoop c) rfl (fun _ _ => .inl (by simp)) harr⟩
  intro b k cs
  obtain ⟨e, a', w', hq, harr⟩ := key _ x0 a w rfl h0 (hs.keep hk) (s.imp hA) b k cs
  exact ⟨e, a', w', hq, .of_steps (.one step_loop) harr⟩
/-- a round's end -/
theorem ge_round {ι : Type} {I : ι → Prop} {si : ι → Slots} {Ai : ι → List Assn} {μ : ι → Nat} {m : Nat} (y : ι) (h0 : I y) (hm : μ y < m) (hk : Keep (si y) sl) (hA : ∀ h, Sat As h → Sat (Ai y) h) :
    GE W0 n sl As (Exit.then (fun a w => ∃ y, I y ∧ μ y < m ∧ HasSl n (si y) a ∧ St W0 (Ai y) w) Q .normal) :=
  fun _ _ hs s => ⟨y, h0, hm, hs.keep hk, s.imp hA⟩

/-! ### a function -/
theorem slots_start (args : List Value) (n : Nat) (h : args.length ≤ n) :
    HasSl n (args.zipIdx.map fun (v, i) => (i, v)) { tmps := args.toArray ++ Array.replicate (n - args.toArray.size) undef, defers := [] } := by
  refine ⟨by simp; omega, rfl, fun t v e => ?_⟩
  have key : ∀ (l : List Value) (k : Nat) (t : Nat) (v : Value), slk ((l.zipIdx k).map fun (v, i) => (i, v)) t = some v → k ≤ t ∧ l[t - k]? = some v := by
    intro l
    induction l with
    | nil => intro k t v e; simp [slk] at e
    | cons x l ih =>
      intro k t v e
      simp only [List.zipIdx_cons, List.map_cons, slk] at e
      cases hb : Nat.beq k t with
      | true => rw [hb] at e; simp at e; have := Nat.eq_of_beq_eq_true hb; subst this; simp [e]
      | false =>
        rw [hb] at e; simp at e
        obtain ⟨h1, h2⟩ := ih _ _ _ e
        refine ⟨by omega, ?_⟩
        rw [show t - k = (t - (k + 1)) + 1 by omega]; simpa using h2
  obtain ⟨_, h2⟩ := key args 0 t v (by simpa using e)
  rw [Nat.sub_zero] at h2
  have : t < args.length := by
    rcases Nat.lt_or_ge t args.length with x | x
    · exact x
    · rw [List.getElem?_eq_none x] at h2; cases h2
  simp only [Array.getElem?_append, List.size_toArray, this, if_true, List.getElem?_toArray]
  exact h2
/-- a function, by its body -/
theorem fn_body {f : FuncId} {fn : Func} {args : List Value} {post : Value → List Assn → Prop} (hf : P.funcs[f]? = some fn) (hb : fn.body = some c) {N : Nat} (hn : fn.ntmps = N) (hl : Nat.ble args.length N = true)
    (h : ∀ W0 R, G P W0 N c (args.zipIdx.map fun (v, i) => (i, v)) (As ++ R) (FQ P W0 fn post R)) : FnS P f args As post := by
  intro W0 R w s
  subst hn
  exact calls_of_wp hf hb (h W0 R _ _ (slots_start args _ (Nat.le_of_ble_eq_true hl)) s)

theorem getD_of {a : Act} {t : Nat} {v : Value} (hs : HasSl n sl a) (e : slk sl t = some v) : a.tmps.getD t undef = v := by
  have := hs.val _ _ e; simp [Array.getD_eq_getD_getElem?, this]
variable {fn : Func} {post : Value → List Assn → Prop} {R : List Assn}
theorem fq_ret {v : Value} {e : Exit} (he : e = .ret ∨ e = .normal) (hr : ∀ a w, HasSl n sl a → St W0 As w → (results fn a.tmps).run P w = .ok v w) (Bs : List Assn) (hp : post v Bs) (hA : ∀ h, Sat As h → Sat (Bs ++ R) h) :
    GE W0 n sl As (FQ P W0 fn post R e) := fun a w hs s => by
  rcases he with rfl | rfl
  · exact bodyPost_ret (hr a w hs s) hs.defers ⟨v, Bs, rfl, hp, s.imp hA⟩
  · exact bodyPost_end (hr a w hs s) hs.defers ⟨v, Bs, rfl, hp, s.imp hA⟩
theorem ret0 {e : Exit} (he : e = .ret ∨ e = .normal) (hf : fn.results = #[]) (Bs : List Assn) (hp : post (.tuple #[]) Bs) (hA : ∀ h, Sat As h → Sat (Bs ++ R) h) : GE W0 n sl As (FQ P W0 fn post R e) :=
  fq_ret he (fun _ _ _ _ => results_none hf _ _ _) Bs hp hA
theorem ret1 {e : Exit} (he : e = .ret ∨ e = .normal) {t : Nat} {v : Value} (hf : fn.results = #[.tmp t]) (h1 : slk sl t = some v) (Bs : List Assn) (hp : post v Bs) (hA : ∀ h, Sat As h → Sat (Bs ++ R) h) : GE W0 n sl As (FQ P W0 fn post R e) :=
  fq_ret he (fun a w hs _ => by rw [results_tmp hf, getD_of hs h1]) Bs hp hA
theorem ret2 {e : Exit} (he : e = .ret ∨ e = .normal) {t u : Nat} {v x : Value} (hf : fn.results = #[.tmp t, .tmp u]) (h1 : slk sl t = some v) (h2 : slk sl u = some x) (Bs : List Assn) (hp : post (.tuple #[v, x]) Bs) (hA : ∀ h, Sat As h → Sat (Bs ++ R) h) : GE W0 n sl As (FQ P W0 fn post R e) :=
  fq_ret he (fun a w hs _ => by rw [results_tmp2 hf, getD_of hs h1, getD_of hs h2]) Bs hp hA
theorem ret3 {e : Exit} (he : e = .ret ∨ e = .normal) {t u q : Nat} {v x y : Value} (hf : fn.results = #[.tmp t, .tmp u, .tmp q]) (h1 : slk sl t = some v) (h2 : slk sl u = some x) (h3 : slk sl q = some y) (Bs : List Assn) (hp : post (.tuple #[v, x, y]) Bs) (hA : ∀ h, Sat As h → Sat (Bs ++ R) h) : GE W0 n sl As (FQ P W0 fn post R e) :=
  fq_ret he (fun a w hs _ => by simp [results, hf, hs.val _ _ h1, hs.val _ _ h2, hs.val _ _ h3]) Bs hp hA

/-! ### single operations -/
/-- the operation gives 'v' and leaves the world alone -/
def OV (P : Program) (W0 : World) (n : Nat) (op : Op) (ty : TypeId) (sl : Slots) (As : List Assn) (v : Value) : Prop :=
  ∀ a w d pos aft g, HasSl n sl a → St W0 As w → (execOp a.eval ⟨d, op, ty, pos, aft, g⟩).run P w = .ok (.value v) w
variable {op : Op} {ty : TypeId} {pos : String} {aft : Array Edge} {rest : List Oper} {v : Value}
theorem gl_v {d : Nat} (hd : Nat.blt d n = true) (hv : OV P W0 n op ty sl As v) (h : GL P W0 n ops rest ((d, v) :: sl) As Q) : GL P W0 n ops (⟨some d, op, ty, pos, aft, none⟩ :: rest) sl As Q :=
  fun a w hs s => wpList_plain rfl fun K hK => by
    simp only [Oper.wp, hv a w (some d) pos aft none hs s, Oper.upon]
    exact hK _ _ (h _ _ (hs.put v hd) s)
theorem gl_v0 (hv : OV P W0 n op ty sl As v) (h : GL P W0 n ops rest sl As Q) : GL P W0 n ops (⟨none, op, ty, pos, aft, none⟩ :: rest) sl As Q :=
  fun a w hs s => wpList_plain rfl fun K hK => by
    simp only [Oper.wp, hv a w none pos aft none hs s, Oper.upon]
    exact hK _ _ (h _ _ hs s)
/-- the operation only changes memory -/
def OU (P : Program) (W0 : World) (n : Nat) (op : Op) (ty : TypeId) (sl : Slots) (As : List Assn) (Bs : List Assn) : Prop :=
  ∀ a w d pos aft g, HasSl n sl a → St W0 As w → ∃ w', (execOp a.eval ⟨d, op, ty, pos, aft, g⟩).run P w = .ok .skip w' ∧ St W0 Bs w'
theorem gl_u (hv : OU P W0 n op ty sl As Bs) (h : GL P W0 n ops rest sl Bs Q) : GL P W0 n ops (⟨none, op, ty, pos, aft, none⟩ :: rest) sl As Q :=
  fun a w hs s => wpList_plain rfl fun K hK => by
    obtain ⟨w', hr, s'⟩ := hv a w none pos aft none hs s
    simp only [Oper.wp, hr, Oper.upon]
    exact hK _ _ (h _ _ hs s')
/-- the operation gives something new and changes memory -/
def ON (P : Program) (W0 : World) (n : Nat) (op : Op) (ty : TypeId) (sl : Slots) (As : List Assn) (p : Value → List Assn → Prop) : Prop :=
  ∀ a w d pos aft g, HasSl n sl a → St W0 As w → ∃ v Bs w', (execOp a.eval ⟨d, op, ty, pos, aft, g⟩).run P w = .ok (.value v) w' ∧ p v Bs ∧ St W0 Bs w'
theorem gl_n {d : Nat} {p : Value → List Assn → Prop} (hd : Nat.blt d n = true) (hv : ON P W0 n op ty sl As p) (h : ∀ v Bs, p v Bs → GL P W0 n ops rest ((d, v) :: sl) Bs Q) : GL P W0 n ops (⟨some d, op, ty, pos, aft, none⟩ :: rest) sl As Q :=
  fun a w hs s => wpList_plain rfl fun K hK => by
    obtain ⟨v, Bs, w', hr, hp, s'⟩ := hv a w (some d) pos aft none hs s
    simp only [Oper.wp, hr, Oper.upon]
    exact hK _ _ (h v Bs hp _ _ (hs.put v hd) s')
def putO (sl : Slots) : Option Nat → Slots
  | some d => (d, undef) :: sl
  | none => sl
def okO (n : Nat) : Option Nat → Bool
  | some d => Nat.blt d n
  | none => true
/-- an operation under a guard -/
theorem gl_g {j dj : Nat} {want c : Bool} {d : Option Nat} (hj : (ops[j]?).bind (·.dst) = some dj) (hv : slk sl dj = some (.bool c))
    (h1 : c = want → GL P W0 n ops (⟨d, op, ty, pos, aft, none⟩ :: rest) sl As Q) (h2 : c = (!want) → GL P W0 n ops rest (putO sl d) As Q) (hd : okO n d = true) :
    GL P W0 n ops (⟨d, op, ty, pos, aft, some (j, want)⟩ :: rest) sl As Q := fun a w hs s => by
  have hy : yielded ops a.tmps j = some c := by
    unfold yielded; rw [hj]; simp [hs.val _ _ hv]
  by_cases hc : c = want
  · have := h1 hc a w hs s
    unfold wpList at this ⊢
    simp only [Region.wanted, hy, hc, beq_self_eq_true, if_true] at this ⊢
    exact this
  · have hc' : c = (!want) := by clear hy hv h1 h2; cases c <;> cases want <;> first | rfl | exact absurd rfl hc
    have hw : (some c == some want) = false := by rw [hc']; cases want <;> rfl
    unfold wpList
    simp only [Region.wanted, hy, hw]
    cases d with
    | none => exact h2 hc' a w hs s
    | some d => exact h2 hc' _ w (hs.put undef hd) s
theorem gl_gT {j dj : Nat} {want c : Bool} {d : Option Nat} (hj : (ops[j]?).bind (·.dst) = some dj) (hv : slk sl dj = some (.bool c)) (hc : c = want)
    (h1 : GL P W0 n ops (⟨d, op, ty, pos, aft, none⟩ :: rest) sl As Q) :
    GL P W0 n ops (⟨d, op, ty, pos, aft, some (j, want)⟩ :: rest) sl As Q := fun a w hs s => by
  have hy : yielded ops a.tmps j = some c := by
    unfold yielded; rw [hj]; simp [hs.val _ _ hv]
  have := h1 a w hs s
  unfold wpList at this ⊢
  simp only [Region.wanted, hy, hc, beq_self_eq_true, if_true] at this ⊢
  exact this
theorem gl_gF {j dj : Nat} {want c : Bool} {d : Nat} (hj : (ops[j]?).bind (·.dst) = some dj) (hv : slk sl dj = some (.bool c)) (hc : c = (!want)) (hd : Nat.blt d n = true)
    (h2 : GL P W0 n ops rest ((d, undef) :: sl) As Q) :
    GL P W0 n ops (⟨some d, op, ty, pos, aft, some (j, want)⟩ :: rest) sl As Q := fun a w hs s => by
  have hy : yielded ops a.tmps j = some c := by
    unfold yielded; rw [hj]; simp [hs.val _ _ hv]
  have hw : (some c == some want) = false := by subst hc; cases want <;> rfl
  unfold wpList
  simp only [Region.wanted, hy, hw]
  exact h2 _ w (hs.put undef hd) s
/-- a guard whose operation has not been carried out itself -/
theorem gl_gU {j dj : Nat} {want : Bool} {d : Nat} (hj : (ops[j]?).bind (·.dst) = some dj) (hv : slk sl dj = some undef) (hd : Nat.blt d n = true)
    (h2 : GL P W0 n ops rest ((d, undef) :: sl) As Q) :
    GL P W0 n ops (⟨some d, op, ty, pos, aft, some (j, want)⟩ :: rest) sl As Q := fun a w hs s => by
  have hy : yielded ops a.tmps j = none := by
    unfold yielded; rw [hj]; simp only [Option.bind_some, hs.val _ _ hv]; rfl
  unfold wpList
  simp only [Region.wanted, hy]
  exact h2 _ w (hs.put undef hd) s
/-- a call of a function -/
def OC (P : Program) (W0 : World) (n : Nat) (op : Op) (ty : TypeId) (sl : Slots) (As : List Assn) (p : Value → List Assn → Prop) : Prop :=
  ∀ a w d pos aft g, HasSl n sl a → St W0 As w → ∃ f args, (execOp a.eval ⟨d, op, ty, pos, aft, g⟩).run P w = .ok (.enter f args) w ∧
    Calls P f args w fun e w' => ∃ v Bs, e = .returned v ∧ p v Bs ∧ St W0 Bs w'
theorem gl_c {d : Nat} {p : Value → List Assn → Prop} (hd : Nat.blt d n = true) (hv : OC P W0 n op ty sl As p) (h : ∀ v Bs, p v Bs → GL P W0 n ops rest ((d, v) :: sl) Bs Q) : GL P W0 n ops (⟨some d, op, ty, pos, aft, none⟩ :: rest) sl As Q :=
  fun a w hs s => wpList_plain rfl fun K hK => by
    obtain ⟨f, args, hr, hc⟩ := hv a w (some d) pos aft none hs s
    simp only [Oper.wp, hr, Oper.upon]
    exact hc.mono fun e w' ⟨v, Bs, he, hp, s'⟩ => by subst he; exact hK _ _ (h v Bs hp _ _ (hs.put v hd) s')
theorem gl_c0 {p : Value → List Assn → Prop} (hv : OC P W0 n op ty sl As p) (h : ∀ v Bs, p v Bs → GL P W0 n ops rest sl Bs Q) : GL P W0 n ops (⟨none, op, ty, pos, aft, none⟩ :: rest) sl As Q :=
  fun a w hs s => wpList_plain rfl fun K hK => by
    obtain ⟨f, args, hr, hc⟩ := hv a w none pos aft none hs s
    simp only [Oper.wp, hr, Oper.upon]
    exact hc.mono fun e w' ⟨v, Bs, he, hp, s'⟩ => by subst he; exact hK _ _ (h v Bs hp _ _ hs s')
end
end Go.L
