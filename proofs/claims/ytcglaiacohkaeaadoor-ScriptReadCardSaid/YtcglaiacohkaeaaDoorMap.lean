/-
  Maps with integer keys, makes of slices, bits and shifts, over heaps in parts. Own work; it speaks of no program.
-/
import Derived.Test.YtcglaiacohkaeaaDoorMem
import Derived.Laws.StructEq
set_option linter.unusedSimpArgs false
set_option linter.unusedVariables false
set_option linter.unusedSectionVars false
namespace Go.L
/-- block r is a map whose entries are these, in this order of their making -/
def mapI (r : Nat) (kk : IntKind) (m : List (Int × Value)) : Assn := fun h => ∃ es clock, h r = some (.map es clock) ∧ es.toList.map (fun e => (e.key, e.val)) = m.map (fun p => (Value.int kk p.1, p.2))
def mget {β : Type} (m : List (Int × β)) (k : Int) : Option β :=
  match m with
  | [] => none
  | (j, v) :: r => if k = j then some v else mget r k
def mput {β : Type} (m : List (Int × β)) (k : Int) (v : β) : List (Int × β) :=
  match m with
  | [] => [(k, v)]
  | (j, u) :: r => if k = j then (k, v) :: r else (j, u) :: mput r k v
theorem mget_mput {β : Type} (m : List (Int × β)) (k : Int) (v : β) (j : Int) : mget (mput m k v) j = if j = k then some v else mget m j := by
  induction m with
  | nil => simp [mput, mget]
  | cons p r ih =>
    obtain ⟨q, u⟩ := p
    simp only [mput]
    by_cases h : k = q
    · subst h; simp only [if_true, mget]; by_cases hj : j = k <;> simp [hj]
    · simp only [if_neg h, mget, ih]
      by_cases hj : j = q
      · subst hj; simp [Ne.symm h]
      · simp [hj]
theorem mget_map {β γ : Type} (f : β → γ) (m : List (Int × β)) (k : Int) : mget (m.map fun p => (p.1, f p.2)) k = (mget m k).map f := by
  induction m with
  | nil => rfl
  | cons p r ih => simp only [List.map_cons, mget, ih]; split <;> rfl
theorem mput_map {β γ : Type} (f : β → γ) (m : List (Int × β)) (k : Int) (v : β) : mput (m.map fun p => (p.1, f p.2)) k (f v) = (mput m k v).map fun p => (p.1, f p.2) := by
  induction m with
  | nil => rfl
  | cons p r ih => simp only [List.map_cons, mput, ih]; split <;> simp
class OwM (r : Nat) (As : List Assn) (kk : outParam IntKind) (m : outParam (List (Int × Value))) (u : outParam (List (Int × Value) → List Assn)) : Prop where
  get : ∀ {h : Hp}, Sat As h → ∃ es clock, h r = some (.map es clock) ∧ es.toList.map (fun e => (e.key, e.val)) = m.map (fun p => (Value.int kk p.1, p.2))
  set : ∀ {h : Hp} (m' : List (Int × Value)) (es : Array MapEntry) (clock : Nat), Sat As h → es.toList.map (fun e => (e.key, e.val)) = m'.map (fun p => (Value.int kk p.1, p.2)) → Sat (u m') (upd h r (.map es clock))
instance OwM.head {r : Nat} {kk : IntKind} {m : List (Int × Value)} {R : List Assn} : OwM r (mapI r kk m :: R) kk m (fun m' => mapI r kk m' :: R) where
  get := fun ⟨_, _, _, e, ⟨es, c, h1, h2⟩, _⟩ => ⟨es, c, e ▸ join_some h1, h2⟩
  set := fun m' es clock ⟨h1, h2, d, e, ⟨es0, c0, k1, _⟩, hr⟩ he => by
    subst e
    obtain ⟨e1, d1⟩ := upd_join_left (o' := .map es clock) k1 d
    exact ⟨_, h2, d1, e1, ⟨es, clock, by simp [upd], he⟩, hr⟩
instance OwM.tail {r : Nat} {A : Assn} {kk : IntKind} {m : List (Int × Value)} {R : List Assn} {u : List (Int × Value) → List Assn} [i : OwM r R kk m u] : OwM r (A :: R) kk m (fun m' => A :: u m') where
  get := fun s => i.get (Sat.drop s)
  set := fun m' es clock ⟨h1, h2, d, e, ha, hr⟩ he => by
    subst e
    obtain ⟨es0, c0, k1, _⟩ := i.get hr
    obtain ⟨e1, d1⟩ := upd_join_left (o' := .map es clock) k1 d.symm
    refine ⟨h1, _, d1.symm, ?_, ha, i.set m' es clock hr he⟩
    rw [join_comm d, e1, join_comm d1]
class TMap (P : Program) (t : TypeId) (kk : outParam IntKind) (z : outParam Value) : Prop where
  out : ∃ k e i, P.underlying t = some (.map k e) ∧ P.underlying k = some (.int kk) ∧ P.info? e = some i ∧ i.zero = some z
section
variable {P : Program} {W0 w : World} {n : Nat} {sl : Slots} {As : List Assn} {ty : TypeId}
theorem run_checkKey {k : TypeId} {kk : IntKind} (h : P.underlying k = some (.int kk)) (b : Bool) (d : Nat) (x : Int) (w : World) : (Instr.checkKey b (d + 1) k (.int kk x)).run P w = .ok () w := by
  simp [Instr.checkKey, rU h]
theorem findNow_int (kk : IntKind) (x : Int) : ∀ (es : List MapEntry) (m : List (Int × Value)) (i : Nat), es.map (fun e => (e.key, e.val)) = m.map (fun p => (Value.int kk p.1, p.2)) →
    ∃ o, Instr.findNow (.int kk) (.int kk x) es i = some o ∧ o.map (·.2) = mget m x ∧ (∀ j v, o = some (j, v) → i ≤ j ∧ ∃ e, es[j - i]? = some e ∧ e.key = .int kk x ∧
      ∀ v', (es.modify (j - i) fun e => { e with key := .int kk x, val := v' }).map (fun e => (e.key, e.val)) = (mput m x v').map (fun p => (Value.int kk p.1, p.2))) ∧
      (o = none → mput m x = fun v' => m ++ [(x, v')])
  | [], m, i, h => by
    have : m = [] := by cases m <;> simp at h ⊢
    subst this
    exact ⟨none, rfl, rfl, by simp, fun _ => rfl⟩
  | e :: es, m, i, h => by
    obtain ⟨⟨j, u⟩, m', rfl⟩ : ∃ p m', m = p :: m' := by cases m with
      | nil => simp at h
      | cons p m' => exact ⟨p, m', rfl⟩
    simp only [List.map_cons, List.cons.injEq, Prod.mk.injEq] at h
    obtain ⟨⟨h1, h2⟩, h3⟩ := h
    have hs : Instr.sameNow (.int kk) (.int kk x) e.key = some (x == j) := by rw [h1]; simp [Instr.sameNow]
    by_cases hx : x = j
    · subst hx
      refine ⟨some (i, e.val), by simp [Instr.findNow, hs], by simp [mget, h2], ?_, by simp⟩
      intro j' v he
      simp only [Option.some.injEq, Prod.mk.injEq] at he
      obtain ⟨rfl, rfl⟩ := he
      exact ⟨Nat.le_refl _, e, by simp, h1, fun v' => by simp [mput, h3]⟩
    · have hb : (x == j) = false := by simpa using hx
      obtain ⟨o, g1, g2, g3, g4⟩ := findNow_int kk x es m' (i + 1) h3
      refine ⟨o, by simp [Instr.findNow, hs, hb, g1], by simp [mget, hx, g2], ?_, ?_⟩
      · intro j' v he
        obtain ⟨k1, e', k2, k3, k4⟩ := g3 j' v he
        have e1 : j' - i = (j' - (i + 1)) + 1 := by omega
        refine ⟨by omega, e', by rw [e1]; simpa using k2, k3, fun v' => ?_⟩
        rw [e1]; simp [mput, hx, h1, h2, k4 v']
      · intro ho; funext v'
        simp [mput, hx, g4 ho]
theorem o_lookup {t : TypeId} {x y : Operand} {kk : IntKind} {z : Value} {r : Nat} {k : Int} {m : List (Int × Value)} {u : List (Int × Value) → List Assn} [i : TMap P t kk z] [j : OwM r As kk m u] (h : opv sl x = some (.map (some r))) (hy : opv sl y = some (.int kk k)) :
    OV P W0 n (.lookup t x y false) ty sl As ((mget m k).getD z) := fun a w d pos aft g hs s => by
  obtain ⟨kt, et, inf, h1, h2, h3, h4⟩ := i.out
  obtain ⟨es, clock, g1, g2⟩ := j.get s.sat
  have g1' : w.heap[r]? = _ := g1
  obtain ⟨o, k1, k2, _, _⟩ := findNow_int kk k es.toList m 0 g2
  simp only [execOp, hs.eval h, hs.eval hy]
  have hg := run_getObj_map (P := P) w r es clock g1'
  simp [Instr.lookup, rU h1, hg, run_checkKey h2, Instr.findKey, rU h2, k1]
  cases o with
  | none => simp [rZ h3 h4]; simp at k2; rw [← k2]; rfl
  | some p => simp; simp at k2; rw [← k2]; rfl
theorem o_lookupR {t : TypeId} {x y : Operand} {kk : IntKind} {z : Value} {r : Nat} {k : Int} {m : List (Int × Value)} {u : List (Int × Value) → List Assn} (v : Value) [i : TMap P t kk z] [j : OwM r As kk m u] (hv : (mget m k).getD z = v) (h : opv sl x = some (.map (some r))) (hy : opv sl y = some (.int kk k)) :
    OV P W0 n (.lookup t x y false) ty sl As v := hv ▸ o_lookup (i := i) (j := j) h hy
theorem o_lookup2 {t : TypeId} {x y : Operand} {kk : IntKind} {z : Value} {r : Nat} {k : Int} {m : List (Int × Value)} {u : List (Int × Value) → List Assn} [i : TMap P t kk z] [j : OwM r As kk m u] (h : opv sl x = some (.map (some r))) (hy : opv sl y = some (.int kk k)) :
    OV P W0 n (.lookup t x y true) ty sl As (.tuple [(mget m k).getD z, .bool (mget m k).isSome].toArray) := fun a w d pos aft g hs s => by
  obtain ⟨kt, et, inf, h1, h2, h3, h4⟩ := i.out
  obtain ⟨es, clock, g1, g2⟩ := j.get s.sat
  have g1' : w.heap[r]? = _ := g1
  obtain ⟨o, k1, k2, _, _⟩ := findNow_int kk k es.toList m 0 g2
  simp only [execOp, hs.eval h, hs.eval hy]
  have hg := run_getObj_map (P := P) w r es clock g1'
  simp [Instr.lookup, rU h1, hg, run_checkKey h2, Instr.findKey, rU h2, k1]
  cases o with
  | none => simp [rZ h3 h4]; simp at k2; rw [← k2]; exact ⟨rfl, rfl⟩
  | some p => simp; simp at k2; rw [← k2]; exact ⟨rfl, rfl⟩
theorem o_mapUpd {t : TypeId} {x y q : Operand} {kk : IntKind} {z v : Value} {r : Nat} {k : Int} {m : List (Int × Value)} {u : List (Int × Value) → List Assn} [i : TMap P t kk z] [j : OwM r As kk m u] (h : opv sl x = some (.map (some r))) (hy : opv sl y = some (.int kk k)) (hv : opv sl q = some v) :
    OU P W0 n (.mapUpdate t x y q) ty sl As (u (mput m k v)) := fun a w d pos aft g hs s => by
  obtain ⟨kt, et, inf, h1, h2, h3, h4⟩ := i.out
  obtain ⟨es, clock, g1, g2⟩ := j.get s.sat
  have g1' : w.heap[r]? = _ := g1
  obtain ⟨o, k1, k2, k3, k4⟩ := findNow_int kk k es.toList m 0 g2
  have hg := run_getObj_map (P := P) w r es clock g1'
  have hset : ∀ ob : Obj, (setObj r ob).run P w = .ok () { w with heap := w.heap.setIfInBounds r ob } := fun ob => by
    simp [setObj, Sem.run, g1']
  have fin : ∀ (es' : Array MapEntry) (c : Nat), es'.toList.map (fun e => (e.key, e.val)) = (mput m k v).map (fun p => (Value.int kk p.1, p.2)) → St W0 (u (mput m k v)) { w with heap := w.heap.setIfInBounds r (.map es' c) } := fun es' c he =>
    ⟨s.os, s.tape, s.output, by have := s.size; simpa using this, by rw [hpOf_set _ g1]; exact j.set _ _ _ s.sat he⟩
  simp only [execOp, hs.eval h, hs.eval hy, hs.eval hv]
  cases o with
  | none =>
    refine ⟨_, ?_, fin (es.push { key := .int kk k, val := v, born := clock }) (clock + 1) (by rw [k4 rfl]; simp [g2])⟩
    simp [Instr.mapUpdate, rU h1, hg, run_checkKey h2, Instr.findKey, rU h2, k1, hset]
  | some p =>
    obtain ⟨i', v0⟩ := p
    obtain ⟨_, e, e1, e2, e3⟩ := k3 i' v0 rfl
    simp only [Nat.sub_zero] at e1 e3
    refine ⟨_, ?_, fin (es.modify i' fun e => { e with key := .int kk k, val := v }) clock (by rw [Array.toList_modify]; exact e3 v)⟩
    have e1' : es[i']? = some e := by simpa using e1
    simp [Instr.mapUpdate, rU h1, hg, run_checkKey h2, Instr.findKey, rU h2, k1, hset, e1', e2, Instr.keyThatStays, Instr.sameBits]
theorem mapI_new {b : Nat} {kk : IntKind} {R : List Assn} : ∀ h, Sat (pts b (.map #[] 0) :: R) h → Sat (mapI b kk [] :: R) h := fun _ => Sat.head fun _ hh => ⟨#[], 0, hh, rfl⟩
theorem o_makeS {t e : TypeId} {sz bytes k : Nat} {kk kk' : IntKind} {zs : List Value} {x y : Operand} [i : TElem P t e sz bytes zs] (hx : opv sl x = some (.int kk (k : Int))) (hy : opv sl y = some (.int kk' (k : Int))) (h63 : k ≤ maxLen) (hb : bytes * k ≤ 281474976710656) :
    ON P W0 n (.makeSlice t x y) ty sl As (fun v Bs => ∃ a c, v = .slice a k c ∧ Bs = own (.slice a k c) e sz k (rep zs k) :: As) := fun a w d pos aft g hs s => by
  obtain ⟨inf, z, h1, h2, rfl, rfl, h5, h6, h7⟩ := i.out
  have hw : IntKind.i64.wrap (k : Int) = k := IntWalk.i64_in _ (by simp only [maxLen] at h63; omega)
  have hb' : ¬ (281474976710656 < (inf.bytes : Int) * k) := by have : ((inf.bytes * k : Nat) : Int) ≤ 281474976710656 := by omega
                                                               rw [Int.natCast_mul] at this; omega
  refine ⟨.slice (some ⟨w.heap.size, 0, none⟩) k k, _, { w with heap := w.heap.push (.cells (rep zs k).toArray e (0, 0)) }, ?_, ⟨_, _, rfl, rfl⟩, ?_⟩
  · simp only [execOp, hs.eval hx, hs.eval hy]
    have h9 : ((Array.range (k * inf.size)).map fun x => zs.toArray[x % inf.size]!) = (rep zs k).toArray := by
      rw [← rep_range zs k default, h7]
      apply Array.ext'
      simp
    have e1 : ¬ ((k : Int) < 0) := by omega
    by_cases h0 : k * inf.size = 0
    · have hr : rep zs k = [] := by apply List.eq_nil_of_length_eq_zero; rw [rep_length, h7]; exact h0
      simp [Instr.makeSlice, rU h1, asInt, asIntOf, rI h2, hw, hb', e1, rS h2, newRow, h0, hr]
      congr 2; apply Array.eq_empty_of_size_eq_zero; simp
    · have : ¬ (k = 0 ∨ inf.size = 0) := fun hh => h0 (by rcases hh with hh | hh <;> simp [hh])
      simp at h9
      simp [Instr.makeSlice, rU h1, asInt, asIntOf, rI h2, hw, hb', e1, rS h2, rZ h2 h5, newRow, this, h6, h7, h9]
      intro hh; exact absurd hh h0
  · refine (s.new _).imp fun _ => Sat.head fun h hh => ⟨by rw [rep_length, h7], .inr ⟨_, k, [], rfl, by simp [rep_length, h7], Nat.le_refl _, h63, by rw [List.append_nil]; exact hh⟩⟩

/-! structs of plain cells, compared -/
theorem o_field {t : TypeId} {x : Operand} {f off : Nat} {vs : List Value} {v : Value} [i : TFldV P t f off] (hx : opv sl x = some (.agg vs.toArray)) (hv : vs[off]? = some v) : OV P W0 n (.field t x f) ty sl As v := fun a w d pos aft g hs _ => by
  obtain ⟨fs, fd, dd, h1, h2, h3, h4, h5⟩ := i.out
  simp only [execOp, hs.eval hx]
  simp [Instr.field, rU h1, h2, asAgg, part, h3, rA0 h4 h5, hv]
theorem o_fieldA {t : TypeId} {x : Operand} {f off sz : Nat} {vs us : List Value} [i : TFldA P t f off sz] (hx : opv sl x = some (.agg vs.toArray)) (hv : (vs.drop off).take sz = us) : OV P W0 n (.field t x f) ty sl As (.agg us.toArray) := fun a w d pos aft g hs _ => by
  obtain ⟨fs, fd, dd, inf, h1, h2, h3, h4, h5, h6, h7⟩ := i.out
  simp only [execOp, hs.eval hx]
  simp [Instr.field, rU h1, h2, asAgg, part, h3, rA1 h4 h5, rS h6, h7]
  rw [← hv]
inductive FKd | int (k : IntKind) | bool | str
def fitsL : List FKd → List Value → Bool
  | [], [] => true
  | .int k :: ks, .int j _ :: vs => (match k, j with
      | .i8, .i8 | .i16, .i16 | .i32, .i32 | .i64, .i64 | .u8, .u8 | .u16, .u16 | .u32, .u32 | .u64, .u64 => true
      | _, _ => false) && fitsL ks vs
  | .bool :: ks, .bool _ :: vs => fitsL ks vs
  | .str :: ks, .string _ :: vs => fitsL ks vs
  | _, _ => false
def flatEq : List Value → List Value → Bool
  | .int _ a :: xs, .int _ b :: ys => (a == b) && flatEq xs ys
  | .bool a :: xs, .bool b :: ys => (a == b) && flatEq xs ys
  | .string a :: xs, .string b :: ys => (a.toList == b.toList) && flatEq xs ys
  | [], [] => true
  | _, _ => false
def fkOf (P : Program) (f : Field) : Option FKd :=
  if f.name = "_" then none else match P.underlying f.type with
    | some (.int k) => some (.int k)
    | some .bool => some .bool
    | some .string => some .str
    | _ => none
class TFlat (P : Program) (t : TypeId) (ks : outParam (List FKd)) : Prop where
  out : ∃ fs, P.underlying t = some (.struct fs) ∧ fs.toList.map (fun f => (f.offset, fkOf P f)) = ks.zipIdx.map (fun p => (p.2, some p.1))
  held : P.stoodInHeld t = false
  guard : P.eqGuardType P.depth t = false
theorem run_eqFields (w : World) (X Y : List Value) : ∀ (fs : List Field) (ks : List FKd) (k : Nat), fs.map (fun f => (f.offset, fkOf P f)) = (ks.zipIdx k).map (fun p => (p.2, some p.1)) → fitsL ks (X.drop k) = true → fitsL ks (Y.drop k) = true →
    (Op.eqFields 9999 X.toArray Y.toArray fs).run P w = .ok (flatEq (X.drop k) (Y.drop k)) w
  | [], [], k, _, hx, hy => by
    have h1 : X.drop k = [] := by cases h : X.drop k <;> simp [h, fitsL] at hx ⊢
    have h2 : Y.drop k = [] := by cases h : Y.drop k <;> simp [h, fitsL] at hy ⊢
    rw [h1, h2]; simp [Op.eqFields, flatEq]
  | f :: fs, kd :: ks, k, h, hx, hy => by
    simp only [List.map_cons, List.zipIdx_cons, List.cons.injEq, Prod.mk.injEq] at h
    obtain ⟨⟨ho, hf⟩, hr⟩ := h
    obtain ⟨x, xs, ex⟩ : ∃ x xs, X.drop k = x :: xs := by cases e : X.drop k with
      | nil => rw [e] at hx; cases kd <;> simp [fitsL] at hx
      | cons x xs => exact ⟨x, xs, rfl⟩
    obtain ⟨y, ys, ey⟩ : ∃ y ys, Y.drop k = y :: ys := by cases e : Y.drop k with
      | nil => rw [e] at hy; cases kd <;> simp [fitsL] at hy
      | cons y ys => exact ⟨y, ys, rfl⟩
    have ex1 : X[k]? = some x := by have := congrArg (·[0]?) ex; simpa using this
    have ey1 : Y[k]? = some y := by have := congrArg (·[0]?) ey; simpa using this
    have ex2 : X.drop (k + 1) = xs := by rw [← List.drop_drop, ex]; rfl
    have ey2 : Y.drop (k + 1) = ys := by rw [← List.drop_drop, ey]; rfl
    have ih := run_eqFields w X Y fs ks (k + 1) hr
    rw [ex2, ey2] at ih
    rw [ex] at hx ⊢; rw [ey] at hy ⊢
    unfold fkOf at hf
    by_cases hn : f.name = "_"
    · rw [if_pos hn] at hf; cases hf
    · rw [if_neg hn] at hf
      have hp : ∀ {d : TypeDesc}, P.underlying f.type = some d → isA d = false → ∀ Z : List Value, ∀ z, Z[k]? = some z → (part f.type Z.toArray f.offset).run P w = .ok z w := fun hd ha Z z hz => by
        simp [part, rA0 hd ha, ho, hz]
      cases hd : P.underlying f.type with
      | none => rw [hd] at hf; cases hf
      | some d =>
        rw [hd] at hf
        cases d <;> simp at hf <;> subst hf
        · cases x <;> simp [fitsL] at hx
          cases y <;> simp [fitsL] at hy
          simp [Op.eqFields, hn, hp hd rfl X _ ex1, hp hd rfl Y _ ey1, run_equalIn_bool' w _ _ _ _ hd, flatEq]
          split
          · rename_i e; simp [e, ih hx hy]
          · rename_i e; simp [e]
        · cases x <;> simp [fitsL] at hx
          cases y <;> simp [fitsL] at hy
          rename_i k0 k1 a k2 b
          have e1 : k1 = k2 := by cases k0 <;> cases k1 <;> simp at hx <;> cases k2 <;> simp at hy <;> rfl
          subst e1
          simp [Op.eqFields, hn, hp hd rfl X _ ex1, hp hd rfl Y _ ey1, run_equalIn_int w _ _ _ _ _ _ hd, flatEq]
          split
          · rename_i e; simp [e, ih hx.2 hy.2]
          · rename_i e; simp [e]
        · cases x <;> simp [fitsL] at hx
          cases y <;> simp [fitsL] at hy
          simp [Op.eqFields, hn, hp hd rfl X _ ex1, hp hd rfl Y _ ey1, run_equalIn_string w _ _ _ _ hd, flatEq]
          split
          · rename_i e; simp [e, ih hx hy]
          · rename_i e; simp [e]
  | [], _ :: _, _, h, _, _ => by simp at h
  | _ :: _, [], _, h, _, _ => by simp at h
theorem o_eqlA {t t' : TypeId} {x y : Operand} {xs ys : List Value} {ks : List FKd} [i : TFlat P t ks] (hx : opv sl x = some (.agg xs.toArray)) (hy : opv sl y = some (.agg ys.toArray)) (fx : fitsL ks xs = true) (fy : fitsL ks ys = true) : OV P W0 n (.binOp .eql t x y t') ty sl As (.bool (flatEq xs ys)) := fun a w d pos aft g hs _ => by
  obtain ⟨fs, h1, h2⟩ := i.out
  have hf : P.fieldsOf t = fs := by simp [Program.fieldsOf, h1]
  simp only [execOp, hs.eval hx, hs.eval hy]
  simp [run_eqGuard_agg w .eql t x y _ _ i.guard, run_eql_struct, run_equalIn_struct w 9999 t _ _ (by rw [hf]; exact h1) i.held, hf, run_eqFields w xs ys fs.toList ks 0 h2 fx fy]
theorem o_neqA {t t' : TypeId} {x y : Operand} {xs ys : List Value} {ks : List FKd} [i : TFlat P t ks] (hx : opv sl x = some (.agg xs.toArray)) (hy : opv sl y = some (.agg ys.toArray)) (fx : fitsL ks xs = true) (fy : fitsL ks ys = true) : OV P W0 n (.binOp .neq t x y t') ty sl As (.bool (!flatEq xs ys)) := fun a w d pos aft g hs _ => by
  obtain ⟨fs, h1, h2⟩ := i.out
  have hf : P.fieldsOf t = fs := by simp [Program.fieldsOf, h1]
  simp only [execOp, hs.eval hx, hs.eval hy]
  simp [run_eqGuard_agg w .neq t x y _ _ i.guard, run_neq_struct, run_equalIn_struct w 9999 t _ _ (by rw [hf]; exact h1) i.held, hf, run_eqFields w xs ys fs.toList ks 0 h2 fx fy]
/-! lists that lie flat -/
theorem flat_length {α : Type} (f : α → List Value) (sz : Nat) (hf : ∀ x, (f x).length = sz) : ∀ l : List α, (l.flatMap f).length = l.length * sz
  | [] => by simp
  | x :: l => by rw [List.flatMap_cons, List.length_append, hf, flat_length f sz hf l, List.length_cons, Nat.add_mul]; omega
theorem flat_drop {α : Type} (f : α → List Value) (sz : Nat) (hf : ∀ x, (f x).length = sz) : ∀ (l : List α) (k : Nat), (l.flatMap f).drop (k * sz) = (l.drop k).flatMap f
  | l, 0 => by simp
  | [], k + 1 => by simp
  | x :: l, k + 1 => by
    have e1 : (k + 1) * sz = (f x).length + k * sz := by rw [hf, Nat.add_mul]; omega
    rw [List.flatMap_cons, e1, List.drop_append, List.drop_eq_nil_of_le (by omega), List.nil_append, Nat.add_sub_cancel_left, List.drop_succ_cons, flat_drop f sz hf l k]
theorem flat_take {α : Type} (f : α → List Value) (sz : Nat) (hf : ∀ x, (f x).length = sz) {l : List α} {k : Nat} {x : α} (hk : l[k]? = some x) : ((l.flatMap f).drop (k * sz)).take sz = f x := by
  have : l.drop k = x :: l.drop (k + 1) := by
    obtain ⟨h, e⟩ := List.getElem?_eq_some_iff.1 hk
    rw [← e]; exact List.drop_eq_getElem_cons h
  rw [flat_drop f sz hf, this, List.flatMap_cons, List.take_append_of_le_length (by rw [hf]; omega), List.take_of_length_le (by rw [hf]; omega)]
theorem flat_get {α : Type} (f : α → List Value) (sz : Nat) (hf : ∀ x, (f x).length = sz) {l : List α} {k j : Nat} {x : α} {v : Value} (hk : l[k]? = some x) (hv : (f x)[j]? = some v) : (l.flatMap f)[k * sz + j]? = some v := by
  have h := flat_take f sz hf hk
  rw [← h] at hv
  exact take_get hv
/-! pointers and nil -/
theorem rEqPn {t e : TypeId} (h : P.underlying t = some (.pointer e)) (d : Nat) (ad : Addr) (w : World) : (Op.equalIn (d + 1) t (.pointer (some ad)) (.pointer none)).run P w = .ok false w := by
  simp [Op.equalIn, rU h]
theorem rEqnn {t e : TypeId} (h : P.underlying t = some (.pointer e)) (d : Nat) (w : World) : (Op.equalIn (d + 1) t (.pointer none) (.pointer none)).run P w = .ok true w := by
  simp [Op.equalIn, rU h]
theorem rEqnP {t e : TypeId} (h : P.underlying t = some (.pointer e)) (d : Nat) (ad : Addr) (w : World) : (Op.equalIn (d + 1) t (.pointer none) (.pointer (some ad))).run P w = .ok false w := by
  simp [Op.equalIn, rU h]
theorem o_eqlPn {t t' : TypeId} {x y : Operand} {ad : Addr} [i : TPtr P t] (hx : opv sl x = some (.pointer (some ad))) (hy : opv sl y = some (.pointer none)) : OV P W0 n (.binOp .eql t x y t') ty sl As (.bool false) := fun a w d pos aft g hs _ => by
  obtain ⟨e, h1⟩ := i.out
  simp only [execOp, hs.eval hx, hs.eval hy]
  simp only [binOp]
  simp [eqGuard, Op.equal, Op.maxDepth, rEqPn h1 9999 ad]
theorem o_neqPn {t t' : TypeId} {x y : Operand} {ad : Addr} [i : TPtr P t] (hx : opv sl x = some (.pointer (some ad))) (hy : opv sl y = some (.pointer none)) : OV P W0 n (.binOp .neq t x y t') ty sl As (.bool true) := fun a w d pos aft g hs _ => by
  obtain ⟨e, h1⟩ := i.out
  simp only [execOp, hs.eval hx, hs.eval hy]
  simp only [binOp]
  simp [eqGuard, Op.equal, Op.maxDepth, rEqPn h1 9999 ad]
theorem o_eqlnP {t t' : TypeId} {x y : Operand} {ad : Addr} [i : TPtr P t] (hx : opv sl x = some (.pointer none)) (hy : opv sl y = some (.pointer (some ad))) : OV P W0 n (.binOp .eql t x y t') ty sl As (.bool false) := fun a w d pos aft g hs _ => by
  obtain ⟨e, h1⟩ := i.out
  simp only [execOp, hs.eval hx, hs.eval hy]
  simp only [binOp]
  simp [eqGuard, Op.equal, Op.maxDepth, rEqnP h1 9999 ad]
theorem o_eqlnn {t t' : TypeId} {x y : Operand} [i : TPtr P t] (hx : opv sl x = some (.pointer none)) (hy : opv sl y = some (.pointer none)) : OV P W0 n (.binOp .eql t x y t') ty sl As (.bool true) := fun a w d pos aft g hs _ => by
  obtain ⟨e, h1⟩ := i.out
  simp only [execOp, hs.eval hx, hs.eval hy]
  simp only [binOp]
  simp [eqGuard, Op.equal, Op.maxDepth, rEqnn h1 9999]
theorem o_neqnn {t t' : TypeId} {x y : Operand} [i : TPtr P t] (hx : opv sl x = some (.pointer none)) (hy : opv sl y = some (.pointer none)) : OV P W0 n (.binOp .neq t x y t') ty sl As (.bool false) := fun a w d pos aft g hs _ => by
  obtain ⟨e, h1⟩ := i.out
  simp only [execOp, hs.eval hx, hs.eval hy]
  simp only [binOp]
  simp [eqGuard, Op.equal, Op.maxDepth, rEqnn h1 9999]
/-! opening and closing what is hidden -/
def exA {ι : Type} (φ : ι → Prop) (l : ι → List Assn) : Assn := fun h => ∃ x, φ x ∧ Sat (l x) h
theorem ex_open {ι : Type} {φ : ι → Prop} {l : ι → List Assn} {R : List Assn} {h : Hp} (s : Sat (exA φ l :: R) h) : ∃ x, φ x ∧ Sat (l x ++ R) h := by
  obtain ⟨x, hx⟩ := Sat.ex.1 s
  obtain ⟨p, hs⟩ := Sat.pure.1 hx
  exact ⟨x, p, Sat.flat.1 hs⟩
theorem ex_close {ι : Type} {φ : ι → Prop} {l : ι → List Assn} {R : List Assn} (x : ι) (p : φ x) (t : ∀ h, Sat As h → Sat (l x ++ R) h) : ∀ h, Sat As h → Sat (exA φ l :: R) h :=
  fun h s => Sat.ex.2 ⟨x, Sat.pure.2 ⟨p, Sat.flat.2 (t h s)⟩⟩
variable {Q : Exit → Act → World → Prop} {c : Code} {ops : Array Oper} {R : List Assn} {ι : Type} {φ : ι → Prop} {l : ι → List Assn}
theorem g_open (s : Sel (exA φ l) As R) (h : ∀ x, φ x → G P W0 n c sl (l x ++ R) Q) : G P W0 n c sl As Q := fun a w hs st => by
  obtain ⟨x, p, hx⟩ := ex_open (s.to st.sat)
  exact h x p a w hs ⟨st.os, st.tape, st.output, st.size, hx⟩
theorem gl_open {os : List Oper} (s : Sel (exA φ l) As R) (h : ∀ x, φ x → GL P W0 n ops os sl (l x ++ R) Q) : GL P W0 n ops os sl As Q := fun a w hs st => by
  obtain ⟨x, p, hx⟩ := ex_open (s.to st.sat)
  exact h x p a w hs ⟨st.os, st.tape, st.output, st.size, hx⟩
theorem ge_open {F : Act → World → Prop} (s : Sel (exA φ l) As R) (h : ∀ x, φ x → GE W0 n sl (l x ++ R) F) : GE W0 n sl As F := fun a w hs st => by
  obtain ⟨x, p, hx⟩ := ex_open (s.to st.sat)
  exact h x p a w hs ⟨st.os, st.tape, st.output, st.size, hx⟩
end
end Go.L
