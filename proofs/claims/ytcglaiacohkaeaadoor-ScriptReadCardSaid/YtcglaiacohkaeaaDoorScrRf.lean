/-
  Script: the reference's events. Own work, printed in part by a program of its own.
-/
import Derived.Test.YtcglaiacohkaeaaDoorScrRe
set_option linter.unusedSimpArgs false
set_option linter.unusedVariables false
set_option linter.unusedSectionVars false
namespace Go.Proofs.YtcglaiacohkaeaaDoor.L
open Go.L Go.L.Lx Go.L.Pa Go.L.Sc
def formsL : List By := [[], [70, 84, 82, 78], [105, 70, 84, 77, 78], [65, 105], [65, 105, 77], [65, 105], [105, 84, 87], [65, 70, 77], [65, 77], [65, 77], [65, 70, 87, 77], [65], [65], [65], [65], [78]]
theorem form_at {k : Nat} (h : 1 ≤ k ∧ k ≤ 15) : (verbsL.map fun w => S w)[k * 1]? = some (S (formV k).1) ∧ (formsL.map fun w => S w)[k * 1]? = some (S (formV k).2) := by
  have : ∀ k : Nat, k < 16 → 1 ≤ k → verbsL[k * 1]? = some (formV k).1 ∧ formsL[k * 1]? = some (formV k).2 := by decide
  have h1 := this k (by omega) h.1
  rw [List.getElem?_map, List.getElem?_map, h1.1, h1.2]; exact ⟨rfl, rfl⟩
theorem u64_nat (n : Int) : IntKind.u64.wrap n = (((IntKind.u64.wrap n).toNat : Nat) : Int) := by rw [IntKind.wrap_u64]; omega
theorem partV_dash {c : UInt8} {s : By} {e : Evt} (h : c.toNat = 82) (hs : s = wDash) : partV c s e = some { e with name := [] } := if_pos ⟨h, hs⟩
theorem partV_nm {c : UInt8} {s : By} {e : Evt} (h : ¬ (c.toNat = 82 ∧ s = wDash)) (h2 : c.toNat = 77 ∨ c.toNat = 82) : partV c s e = if isName s then some { e with name := s } else none := (if_neg h).trans (if_pos h2)
theorem partV_id {c : UInt8} {s : By} {e : Evt} (h : c.toNat = 105) : partV c s e = (numV 0 big50 s).map fun n => { e with id := n.toNat } := (if_neg (fun h2 => by omega)).trans ((if_neg (fun h2 => by omega)).trans (if_pos h))
theorem partV_num {c : UInt8} {s : By} {e : Evt} (h1 : ¬ c.toNat = 77) (h2 : ¬ c.toNat = 82) (h : ¬ c.toNat = 105) : partV c s e = (numV (-65535) 65535 s).map fun n => if c.toNat = 65 then { e with actor := n } else if c.toNat = 70 then { e with from' := n } else if c.toNat = 84 then { e with «to» := n } else if c.toNat = 87 then { e with why := n } else { e with n := n } := (if_neg (fun h3 => h2 h3.1)).trans ((if_neg (fun h3 => h3.elim h1 h2)).trans (if_neg h))
def okL (c : UInt8) : Prop := c.toNat = 65 ∨ c.toNat = 70 ∨ c.toNat = 84 ∨ c.toNat = 87 ∨ c.toNat = 78 ∨ c.toNat = 77 ∨ c.toNat = 82 ∨ c.toNat = 105
theorem form_okL (k : Int) : ∀ c ∈ (formV k).2, okL c := by
  by_cases h : 1 ≤ k ∧ k ≤ 15
  · obtain ⟨n, rfl⟩ : ∃ n : Nat, k = n := ⟨k.toNat, by omega⟩
    have : ∀ n : Nat, n < 16 → ∀ c ∈ (formV n).2, c.toNat = 65 ∨ c.toNat = 70 ∨ c.toNat = 84 ∨ c.toNat = 87 ∨ c.toNat = 78 ∨ c.toNat = 77 ∨ c.toNat = 82 ∨ c.toNat = 105 := by decide
    exact this n (by omega)
  · rw [form_bad h]; intro c hc; cases hc
theorem map_get {o : Option Int} {n : Int} {f : Int → Evt} (h : o.getD n = n) : (o.map f).isSome = o.isSome ∧ ∀ x, o.map f = some x → f n = x := by
  cases o with
  | none => exact ⟨rfl, fun x hx => by cases hx⟩
  | some m => exact ⟨rfl, fun x hx => by injection hx with hx; rw [← hx, ← show m = n from h]⟩
/-- the letters' words, one by one; more words do no harm -/
def pfold : By → List By → Evt → Option Evt
  | [], _, e => some e
  | c :: cs, w :: ws, e => (partV c w e).bind (pfold cs ws)
  | _ :: _, [], _ => none
theorem partV_kind {c : UInt8} {s : By} {e e' : Evt} (h : partV c s e = some e') : e'.kind = e.kind := by
  unfold partV at h
  split at h
  · cases h; rfl
  · split at h
    · split at h
      · cases h; rfl
      · cases h
    · split at h
      · cases hv : numV 0 big50 s with
        | none => rw [hv] at h; cases h
        | some n => rw [hv] at h; cases h; rfl
      · cases hv : numV (-65535) 65535 s with
        | none => rw [hv] at h; cases h
        | some n =>
          rw [hv] at h
          simp only [Option.map_some, Option.some.injEq] at h
          subst h
          repeat' split
          all_goals rfl
theorem partV_timed (c : UInt8) (s : By) (e : Evt) : partV c s { e with timed := true } = (partV c s e).map fun x => { x with timed := true } := by
  unfold partV
  split
  · rfl
  · split
    · split <;> rfl
    · split
      · cases numV 0 big50 s <;> rfl
      · cases numV (-65535) 65535 s with
        | none => rfl
        | some n =>
          simp only [Option.map_some, Option.some.injEq]
          repeat' split
          all_goals rfl
theorem pfold_timed : ∀ (cs : By) (ws : List By) (e : Evt), pfold cs ws { e with timed := true } = (pfold cs ws e).map fun x => { x with timed := true }
  | [], _, e => rfl
  | c :: cs, [], e => rfl
  | c :: cs, w :: ws, e => by
    show (partV c w _).bind (pfold cs ws) = ((partV c w e).bind (pfold cs ws)).map _
    rw [partV_timed]
    cases partV c w e with
    | none => rfl
    | some x => exact pfold_timed cs ws x
theorem parts_fold : ∀ {cs : By} {ws : List By} {e : Evt}, ws.length = cs.length → partsV cs ws e = pfold cs ws e
  | [], [], _, _ => rfl
  | [], _ :: _, _, h => by cases h
  | _ :: _, [], _, h => by cases h
  | c :: cs, w :: ws, e, h => by
    show (partV c w e).bind (partsV cs ws) = (partV c w e).bind (pfold cs ws)
    cases partV c w e with
    | none => rfl
    | some x => exact parts_fold (by simpa using h)
theorem parts_foldT : ∀ {cs : By} {us : List By} {e : Evt}, us.length = cs.length → e.kind = 2 → partsV cs (us ++ [wTimed]) e = (pfold cs (us ++ [wTimed]) e).map fun x => { x with timed := true }
  | [], [], e, _, hk => by
    show (if e.kind = 2 ∧ wTimed = wTimed then _ else _) = _
    rw [if_pos ⟨hk, rfl⟩]; rfl
  | [], _ :: _, _, h, _ => by cases h
  | _ :: _, [], _, h, _ => by cases h
  | c :: cs, w :: ws, e, h, hk => by
    show (partV c w e).bind (partsV cs (ws ++ [wTimed])) = ((partV c w e).bind (pfold cs (ws ++ [wTimed]))).map _
    cases hp : partV c w e with
    | none => rfl
    | some x => exact parts_foldT (by simpa using h) (by rw [partV_kind hp]; exact hk)
theorem parts_shape : ∀ {cs : By} {ws : List By} {e x : Evt}, partsV cs ws e = some x → ws.length = cs.length ∨ (e.kind = 2 ∧ ∃ us, ws = us ++ [wTimed] ∧ us.length = cs.length)
  | [], [], _, _, _ => .inl rfl
  | [], [w], e, x, h => by
    unfold partsV at h
    split at h
    · rename_i h2; exact .inr ⟨h2.1, [], by rw [h2.2]; rfl, rfl⟩
    · cases h
  | [], _ :: _ :: _, _, _, h => by cases h
  | _ :: _, [], _, _, h => by cases h
  | c :: cs, w :: ws, e, x, h => by
    have h : (partV c w e).bind (partsV cs ws) = some x := h
    cases hp : partV c w e with
    | none => rw [hp] at h; cases h
    | some y =>
      rw [hp] at h
      rcases parts_shape (show partsV cs ws y = some x from h) with h1 | ⟨h1, us, h2, h3⟩
      · exact .inl (by simp only [List.length_cons, h1])
      · exact .inr ⟨by rw [← partV_kind hp]; exact h1, w :: us, by rw [h2]; rfl, by simp only [List.length_cons, h3]⟩
def tmV (k : Nat) (ws : List By) : Bool := decide (k = 2 ∧ ws.length = 6 ∧ ws[5]? = some wTimed)
theorem tm_iff {k : Nat} {ws : List By} : tmV k ws = true ↔ k = 2 ∧ ws.length = 6 ∧ ws[5]? = some wTimed := by unfold tmV; exact decide_eq_true_iff
theorem tm_us {ws : List By} (h1 : ws.length = 6) (h2 : ws[5]? = some wTimed) : ∃ us, ws = us ++ [wTimed] ∧ us.length = 5 := by
  refine ⟨ws.take 5, ?_, by rw [List.length_take]; omega⟩
  have h3 := drop_at' h2
  have h4 : ws.drop (5 + 1) = [] := List.drop_eq_nil_of_le (by omega)
  rw [h4] at h3
  rw [← h3]
  exact (List.take_append_drop 5 ws).symm
theorem tm_cases (k : Nat) (ws : List By) : (¬ k = 2 ∧ tmV k ws = false) ∨ (k = 2 ∧ ¬ ws.length = 6 ∧ tmV k ws = false) ∨ (k = 2 ∧ ws.length = 6 ∧ ∃ w, ws[5]? = some w ∧ ¬ w = wTimed ∧ tmV k ws = false) ∨ (k = 2 ∧ ws.length = 6 ∧ ∃ w, ws[5]? = some w ∧ w = wTimed ∧ tmV k ws = true) := by
  have hf : ∀ {p : Prop}, ¬ tmV k ws = true → tmV k ws = false := fun h => by simpa using h
  by_cases h1 : k = 2
  · by_cases h2 : ws.length = 6
    · obtain ⟨w, h3⟩ : ∃ w, ws[5]? = some w := ⟨_, List.getElem?_eq_getElem (by omega)⟩
      by_cases h4 : w = wTimed
      · exact .inr (.inr (.inr ⟨h1, h2, w, h3, h4, tm_iff.2 ⟨h1, h2, by rw [h3, h4]⟩⟩))
      · exact .inr (.inr (.inl ⟨h1, h2, w, h3, h4, hf (p := True) fun h => by have := (tm_iff.1 h).2.2; rw [h3] at this; exact h4 (Option.some.inj this)⟩))
    · exact .inr (.inl ⟨h1, h2, hf (p := True) fun h => h2 (tm_iff.1 h).2.1⟩)
  · exact .inl ⟨h1, hf (p := True) fun h => h1 (tm_iff.1 h).1⟩
theorem formV_k {k : Nat} (h : 1 ≤ k ∧ k ≤ 15) : kindV (formV k).1 = k ∧ (k = 2 → (formV k).2.length = 5) := by
  have : ∀ k : Nat, k < 16 → 1 ≤ k → kindV (formV k).1 = k ∧ (k = 2 → (formV k).2.length = 5) := by decide
  exact this k (by omega) h.1
theorem readV_at {l w : By} {ws : List By} (hs : splitB 32 l = w :: ws) {k : Nat} (h : 1 ≤ k ∧ k ≤ 15) (hw : w = (formV k).1) : readV l = partsV (formV k).2 ws { evt0 with kind := k } := by
  unfold readV; rw [hs]
  show wordsV w ws = _
  unfold wordsV
  have hk : kindV w = k := by rw [hw, (formV_k h).1]
  rw [hk, if_neg (by omega)]
/-- the words fit the form, with or without the last one -/
def fits (k : Nat) (ws : List By) : Prop := ws.length = (formV k).2.length ∨ tmV k ws = true
theorem fits_read {l w : By} {ws : List By} (hs : splitB 32 l = w :: ws) {k : Nat} (h : 1 ≤ k ∧ k ≤ 15) (hw : w = (formV k).1) (hf : fits k ws) : pfold (formV k).2 ws { evt0 with kind := k, timed := tmV k ws } = readV l ∧ (formV k).2.length ≤ ws.length := by
  rw [readV_at hs h hw]
  cases ht : tmV k ws with
  | true =>
    obtain ⟨rfl, h2, h3⟩ := tm_iff.1 ht
    obtain ⟨us, h4, h5⟩ := tm_us h2 h3
    have h6 := (formV_k h).2 rfl
    refine ⟨?_, by omega⟩
    rw [h4, parts_foldT (by omega) rfl]
    exact pfold_timed (formV ((2 : Nat) : Int)).2 (us ++ [wTimed]) { evt0 with kind := ((2 : Nat) : Int) }
  | false =>
    have h7 : ws.length = (formV k).2.length := hf.resolve_right (by rw [ht]; decide)
    exact ⟨(parts_fold h7).symm, by omega⟩
theorem fits_none {l w : By} {ws : List By} (hs : splitB 32 l = w :: ws) (h : ∀ j : Nat, 1 ≤ j → j < 16 → ¬ (w = (formV j).1 ∧ fits j ws)) : readV l = none := by
  have hr := kUp_range w 16
  rw [kUp_all] at hr
  by_cases h0 : kindV w = 0
  · exact readV_no hs h0
  · obtain ⟨j, hj⟩ : ∃ j : Nat, kindV w = j := ⟨(kindV w).toNat, by omega⟩
    by_cases hx : ∃ i : Nat, (1 ≤ i ∧ i ≤ 15) ∧ w = (formV i).1
    · obtain ⟨i, hi, hw⟩ := hx
      rw [readV_at hs hi hw]
      cases hp : partsV (formV i).2 ws { evt0 with kind := i } with
      | none => rfl
      | some x =>
        refine absurd ⟨hw, ?_⟩ (h i hi.1 (by omega))
        rcases parts_shape hp with h1 | ⟨h1, us, h2, h3⟩
        · exact .inl h1
        · have h4 : i = 2 := by have h4 : (i : Int) = 2 := h1; omega
          subst h4
          have h5 := (formV_k (k := 2) (by omega)).2 rfl
          refine .inr (tm_iff.2 ⟨rfl, by rw [h2, List.length_append, h3, h5]; rfl, ?_⟩)
          rw [h2, List.getElem?_append_right (by omega), h3, h5]; rfl
    · exfalso
      have hvf : ∀ i : Nat, i < 16 → 1 ≤ i → vb i = (formV i).1 := by decide
      have hn : ∀ i : Nat, 1 ≤ i → i ≤ 15 → ¬ w = vb i := fun i h1 h2 h3 => hx ⟨i, ⟨h1, h2⟩, by rw [h3]; exact hvf i (by omega) h1⟩
      have hz : ∀ i, i ≤ 16 → kUp w i = 0 := by
        intro i
        induction i with
        | zero => intro _; rfl
        | succ i ih =>
          intro hi
          unfold kUp
          rw [if_neg (fun h3 => hn i (by omega) (by omega) h3.2.symm)]
          exact ih (by omega)
      exact h0 (by rw [← kUp_all]; exact hz 16 (Nat.le_refl _))
theorem fold_step {cs : By} {ws : List By} {i : Nat} {x : UInt8} {w : By} {e : Evt} (hx : cs[i]? = some x) (hw : ws[i]? = some w) : pfold (cs.drop i) (ws.drop i) e = (partV x w e).bind (pfold (cs.drop (i + 1)) (ws.drop (i + 1))) := by
  rw [drop_at' hx, drop_at' hw]; rfl
theorem isSome_getE {o : Option Evt} {e : Evt} (h : o.isSome = true) (h2 : ∀ x, o = some x → e = x) : o = some e := by
  cases o with
  | none => cases h
  | some m => exact congrArg some (h2 m rfl).symm
theorem isSome_noE {o : Option Evt} (h : o.isSome = false) : o = none := by
  cases o with
  | none => rfl
  | some m => cases h

set_option maxRecDepth 8000 in
set_option maxHeartbeats 1000000 in
theorem rEventForm_spec (k : Int) : FnS Tryd.prog 38 [I64 k] [] (fun u Bs => u = .tuple #[S (formV k).1, S (formV k).2] ∧ Bs = []) := by
 refine fn_body Tryd.func38 rfl rfl rfl ?_
 intro W0 R
 simp only [List.zipIdx_cons, List.zipIdx_nil, List.map_cons, List.map_nil, Nat.zero_add, Nat.reduceAdd, List.cons_append, List.nil_append]
 refine g_seq ?_
 refine g_region ?_
 refine gl_v rfl (o_assign rfl) ?_
 refine gl_v rfl (o_assign rfl) ?_
 refine gl_nil ?_
 refine ge_then ?_
 refine g_seq ?_
 refine g_region ?_
 refine gl_n rfl (o_buildS rfl rfl rfl rfl) ?_
 rintro _ _ ⟨b6, rfl, rfl⟩
 refine gl_v rfl (o_assign rfl) ?_
 refine gl_nil ?_
 refine ge_then ?_
 refine g_seq ?_
 refine g_region ?_
 refine gl_n rfl (o_buildS rfl rfl rfl rfl) ?_
 rintro _ _ ⟨b7, rfl, rfl⟩
 refine gl_v rfl (o_assign rfl) ?_
 refine gl_nil ?_
 refine ge_then ?_
 refine g_seq ?_
 refine g_seq ?_
 refine g_region ?_
 refine gl_v rfl (o_move rfl) ?_
 refine gl_v rfl (o_lss rfl rfl) ?_
 refine gl_v rfl (o_move rfl) ?_
 refine gl_join (d := 13) 3 (.bool (decide (k < 1) || decide (15 < k))) ?_ (fun jk13 => ?_)
 rotate_left
 ·
  refine gl_g rfl rfl (fun hc1 => ?_) (fun hc1 => ?_) rfl
  ·
   have hc1' := hc1
   replace hc1' := hs_ hc1'
   refine gl_v rfl (o_move rfl) ?_
   refine gl_gT rfl rfl hc1 ?_
   refine gl_v rfl (o_gtr rfl rfl) ?_
   refine gl_v rfl (o_pickF hc1 rfl rfl) ?_
   first | exact jk13 _ (KeepS.top (by repeat (first | exact KeepS.refl _ | refine KeepS.push ?_ rfl)) (jval (by first | rfl | (simp only [hc1, Bool.not_true, Bool.not_false, Bool.false_and, Bool.true_and, Bool.true_or, Bool.false_or]; done) | (simp [hc1]; done) | simp_all))) | exact gl_imp (tO) (jk13 _ (KeepS.top (by repeat (first | exact KeepS.refl _ | refine KeepS.push ?_ rfl)) (jval (by first | rfl | (simp only [hc1, Bool.not_true, Bool.not_false, Bool.false_and, Bool.true_and, Bool.true_or, Bool.false_or]; done) | (simp [hc1]; done) | simp_all))))
  ·
   have hc1' := hc1
   replace hc1' := hs_ hc1'
   simp only [putO]
   refine gl_gF rfl rfl hc1 rfl ?_
   refine gl_v rfl (o_pickT hc1 rfl rfl) ?_
   first | exact jk13 _ (KeepS.top (by repeat (first | exact KeepS.refl _ | refine KeepS.push ?_ rfl)) (jval (by first | rfl | (simp only [hc1, Bool.not_true, Bool.not_false, Bool.false_and, Bool.true_and, Bool.true_or, Bool.false_or]; done) | (simp [hc1]; done) | simp_all))) | exact gl_imp (tO) (jk13 _ (KeepS.top (by repeat (first | exact KeepS.refl _ | refine KeepS.push ?_ rfl)) (jval (by first | rfl | (simp only [hc1, Bool.not_true, Bool.not_false, Bool.false_and, Bool.true_and, Bool.true_or, Bool.false_or]; done) | (simp [hc1]; done) | simp_all))))
 refine gl_nil ?_
 refine ge_then ?_
 refine g_cond rfl (fun hc2 => ?_) (fun hc2 => ?_)
 ·
  replace hc2 := hs_ hc2
  have hbad : ¬ (1 ≤ k ∧ k ≤ 15) := by have h9 := hc2; simp at h9; omega
  refine g_seq ?_
  refine g_region ?_
  refine gl_v rfl (o_assign rfl) ?_
  refine gl_v rfl (o_assign rfl) ?_
  refine gl_nil ?_
  refine ge_then ?_
  refine g_ret ?_
  refine ge_then_ret ?_
  refine ret2 (.inl rfl) rfl rfl rfl _ (⟨by rw [form_bad hbad], rfl⟩) (tO)
 ·
  replace hc2 := hs_ hc2
  have hgood : 1 ≤ k ∧ k ≤ 15 := by have h9 := hc2; simp at h9; omega
  obtain ⟨m, rfl⟩ : ∃ m : Nat, k = m := ⟨k.toNat, by omega⟩
  have hfa := form_at (k := m) (by omega)
  refine g_skip ?_
  refine ge_then ?_
  refine g_seq ?_
  refine g_treeM [] [] (.loc 0 (.loc 1 (.loc 2 (.loc 3 (.loc 4 (.loc 5 (.loc 6 (.loc 7 (.loc 8 (.loc 9 .nil)))))))))) [] mixed (by kernel_rfl) ?_
  refine gt_v rfl .none rfl (o_move rfl) ?_
  refine gt_v rfl .none rfl (o_move rfl) ?_
  refine gt_v rfl .none rfl (o_idxS (j := m) rfl rfl (by omega)) ?_
  refine gt_v rfl .none rfl (o_loadS rfl hfa.1) ?_
  refine gt_v rfl .none rfl (o_move rfl) ?_
  refine gt_v rfl .none rfl (o_move rfl) ?_
  refine gt_v rfl .none rfl (o_idxS (j := m) rfl rfl (by omega)) ?_
  refine gt_v rfl .none rfl (o_loadS rfl hfa.2) ?_
  refine gt_v rfl .none rfl (o_assign rfl) ?_
  refine gt_v rfl .none rfl (o_assign rfl) ?_
  refine gt_nil ?_
  refine ge_then ?_
  refine g_ret ?_
  refine ret2 (.inl rfl) rfl rfl rfl _ (⟨rfl, rfl⟩) (tO)

set_option maxRecDepth 8000 in
set_option maxHeartbeats 2000000 in
theorem part_spec (e : Evt) (c : UInt8) (s : By) (hc : okL c) (hz : s.length ≤ 4000000000) : FnS Tryd.prog 43 [.agg (evtC e).toArray, B8 c, S s] [] (fun u Bs => ∃ e', u = .tuple #[.agg (evtC e').toArray, .bool (partV c s e).isSome] ∧ (∀ x, partV c s e = some x → e' = x) ∧ Bs = []) := by
 refine fn_body Tryd.func43 rfl rfl rfl ?_
 intro W0 R
 simp only [List.zipIdx_cons, List.zipIdx_nil, List.map_cons, List.map_nil, Nat.zero_add, Nat.reduceAdd, List.cons_append, List.nil_append]
 unfold okL at hc
 have hkm := evtC_len e
 refine g_seq ?_
 refine g_region ?_
 refine gl_n rfl (o_boxA rfl) ?_
 rintro _ _ ⟨b3, rfl, rfl⟩
 refine gl_n rfl (o_alloc) ?_
 rintro _ _ ⟨b6, rfl, rfl⟩
 refine gl_v rfl (o_assign rfl) ?_
 refine gl_nil ?_
 refine ge_then ?_
 refine g_seq ?_
 refine g_seq ?_
 refine g_region ?_
 refine gl_v rfl (o_move rfl) ?_
 refine gl_nil ?_
 refine ge_then ?_
 refine g_block ?_
 refine g_cut (fun act wo => ∃ b : Bool, (b = true ↔ c.toNat = 77 ∨ c.toNat = 82) ∧ HasSl Tryd.f43.ntmps [(13, .bool b), (12, B8 c), (6, ptr b6 0), (3, ptr b3 0), (2, S s), (1, B8 c)] act ∧ St W0 (cel b3 37 (evtC (e)) :: cel b6 37 (evtC (evt0)) :: R) wo) ?_ ?_
 ·
  refine g_seq ?_
  refine g_region ?_
  refine gl_v rfl (o_eql rfl rfl) ?_
  refine gl_v rfl (o_assign rfl) ?_
  refine gl_nil ?_
  refine ge_then ?_
  refine g_cond rfl (fun hc1 => ?_) (fun hc1 => ?_)
  ·
   replace hc1 := hs_ hc1
   try have hk := hb.1 hc1
   refine g_skip ?_
   exact fun act wo hsl st => ⟨_, (by simp only [decide_eq_true_eq]; omega), hsl.keep (Keep.cons rfl (Keep.cons rfl (Keep.cons rfl (Keep.cons rfl (Keep.cons rfl (Keep.cons rfl (Keep.nil))))))), st.imp (tO)⟩
  ·
   replace hc1 := hs_ hc1
   try have hk : ¬ _ := fun h9 => absurd (hb.2 h9) (by rw [hc1]; decide)
   try have h77 : ¬ c.toNat = 77 := fun h9 => hk (.inl h9)
   try have h82 : ¬ c.toNat = 82 := fun h9 => hk (.inr h9)
   refine g_region ?_
   refine gl_v rfl (o_eql rfl rfl) ?_
   refine gl_v rfl (o_assign rfl) ?_
   refine gl_nil ?_
   exact fun act wo hsl st => ⟨_, (by simp only [decide_eq_true_eq]; omega), hsl.keep (Keep.cons rfl (Keep.cons rfl (Keep.cons rfl (Keep.cons rfl (Keep.cons rfl (Keep.cons rfl (Keep.nil))))))), st.imp (tO)⟩
 ·
  rintro act wo ⟨b, hb, hsl, st⟩
  refine g_of ?_ hsl st
  clear hsl st act wo
  refine g_cond rfl (fun hc2 => ?_) (fun hc2 => ?_)
  ·
   replace hc2 := hs_ hc2
   try have hk := hb.1 hc2
   refine g_seq ?_
   refine g_region ?_
   refine gl_v rfl (o_move rfl) ?_
   first | refine gl_v rfl (o_fldS rfl) ?_ | refine gl_v rfl (o_fld rfl) ?_
   first | refine gl_u (o_store rfl rfl rfl rfl) ?_ | refine gl_u (o_storeS rfl rfl rfl (by first | assumption | omega | simp)) ?_
   refine gl_nil ?_
   refine ge_then ?_
   refine g_seq ?_
   refine g_seq ?_
   refine g_region ?_
   refine gl_v rfl (o_move rfl) ?_
   refine gl_v rfl (o_eql rfl rfl) ?_
   refine gl_v rfl (o_move rfl) ?_
   refine gl_join (d := 23) 3 (.bool (decide ((c.toNat : Int) = 82) && decide (s = wDash))) ?_ (fun jk23 => ?_)
   rotate_left
   ·
    refine gl_g rfl rfl (fun hc3 => ?_) (fun hc3 => ?_) rfl
    ·
     have hc3' := hc3
     replace hc3' := hs_ hc3'
     refine gl_v rfl (o_move rfl) ?_
     refine gl_gT rfl rfl hc3 ?_
     refine gl_v rfl (o_eqls rfl rfl) ?_
     refine gl_v rfl (o_pickT hc3 rfl rfl) ?_
     first | exact jk23 _ (KeepS.top (by repeat (first | exact KeepS.refl _ | refine KeepS.push ?_ rfl)) (jval (by first | rfl | (simp only [hc3, Bool.not_true, Bool.not_false, Bool.false_and, Bool.true_and, Bool.true_or, Bool.false_or]; done) | (simp [hc3]; done) | simp_all))) | exact gl_imp (tO) (jk23 _ (KeepS.top (by repeat (first | exact KeepS.refl _ | refine KeepS.push ?_ rfl)) (jval (by first | rfl | (simp only [hc3, Bool.not_true, Bool.not_false, Bool.false_and, Bool.true_and, Bool.true_or, Bool.false_or]; done) | (simp [hc3]; done) | simp_all))))
    ·
     have hc3' := hc3
     replace hc3' := hs_ hc3'
     simp only [putO]
     refine gl_gF rfl rfl hc3 rfl ?_
     refine gl_v rfl (o_pickF hc3 rfl rfl) ?_
     first | exact jk23 _ (KeepS.top (by repeat (first | exact KeepS.refl _ | refine KeepS.push ?_ rfl)) (jval (by first | rfl | (simp only [hc3, Bool.not_true, Bool.not_false, Bool.false_and, Bool.true_and, Bool.true_or, Bool.false_or]; done) | (simp [hc3]; done) | simp_all))) | exact gl_imp (tO) (jk23 _ (KeepS.top (by repeat (first | exact KeepS.refl _ | refine KeepS.push ?_ rfl)) (jval (by first | rfl | (simp only [hc3, Bool.not_true, Bool.not_false, Bool.false_and, Bool.true_and, Bool.true_or, Bool.false_or]; done) | (simp [hc3]; done) | simp_all))))
   refine gl_nil ?_
   refine ge_then ?_
   refine g_cond rfl (fun hc4 => ?_) (fun hc4 => ?_)
   ·
    replace hc4 := hs_ hc4
    have hd : c.toNat = 82 ∧ s = wDash := by have h9 := hc4; rw [Bool.and_eq_true, decide_eq_true_eq, decide_eq_true_eq] at h9; exact ⟨by omega, h9.2⟩
    refine g_seq ?_
    refine g_region ?_
    first | refine gl_v rfl (o_fldS rfl) ?_ | refine gl_v rfl (o_fld rfl) ?_
    first | refine gl_u (o_store rfl rfl rfl rfl) ?_ | refine gl_u (o_storeS rfl rfl rfl (by first | assumption | omega | simp)) ?_
    refine gl_nil ?_
    refine ge_then ?_
    refine g_seq ?_
    refine g_region ?_
    first | refine gl_v rfl (o_loadSA rfl rfl rfl) ?_ | refine gl_v rfl (o_loadA rfl rfl rfl) ?_
    first | refine gl_u (o_storeSA rfl rfl rfl rfl (by simp; omega) (by simp)) ?_ | refine gl_u (o_storeA rfl rfl rfl rfl rfl) ?_
    refine gl_v rfl (o_assign rfl) ?_
    refine gl_nil ?_
    refine ge_then ?_
    refine g_ret ?_
    refine ge_then_ret ?_
    refine ge_block_ret ?_
    refine ge_then_ret ?_
    refine ret2ct (.inl rfl) rfl rfl rfl rfl rfl [] ⟨{ e with name := [] }, by rw [partV_dash hd.1 hd.2]; rfl, fun x hx => by rw [partV_dash hd.1 hd.2] at hx; exact Option.some.inj hx, rfl⟩ (tO)
   ·
    replace hc4 := hs_ hc4
    have hd : ¬ (c.toNat = 82 ∧ s = wDash) := fun h8 => by have h9 := hc4; rw [decide_eq_true (show ((c.toNat : Int) = 82) by omega), decide_eq_true h8.2] at h9; cases h9
    refine g_skip ?_
    refine ge_then ?_
    refine g_seq ?_
    refine g_treeM [2, 3] [2] (.stab 0 (.loc 1 (.eff 2 (.eff 3 (.loc 4 .nil) .nil) .nil))) [cel b3 37 (evtC ({ e with name := s })), cel b6 37 (evtC (evt0))] mixed (by kernel_rfl) ?_
    first | refine gt_vs rfl .none rfl (o_loadSA rfl rfl rfl) (tO) ?_ | refine gt_vs rfl .none rfl (o_loadA rfl rfl rfl) (tO) ?_
    refine gt_v rfl .none rfl (o_move rfl) ?_
    refine gt_c rfl .none rfl (o_call rfl (RName_spec s (by omega)) pA) ?_
    rintro _ R ⟨_, ⟨rfl, rfl⟩, rfl⟩
    try simp only [List.cons_append, List.nil_append]
    refine ⟨(fun _ => (tO)), ?_⟩
    first | refine gt_u rfl .none (o_storeSA rfl rfl rfl rfl (by simp; omega) (by simp)) (fun hG => absurd hG (by decide)) ?_ | refine gt_u rfl .none (o_storeA rfl rfl rfl rfl rfl) (fun hG => absurd hG (by decide)) ?_
    refine gt_v rfl .none rfl (o_assign rfl) ?_
    refine gt_nil ?_
    refine ge_then ?_
    refine g_ret ?_
    refine ge_block_ret ?_
    refine ge_then_ret ?_
    refine ret2ct (.inl rfl) rfl rfl rfl rfl rfl [] ⟨{ e with name := s }, by rw [partV_nm hd hk]; cases isName s <;> rfl, fun x hx => (by rw [partV_nm hd hk] at hx; split at hx; exact Option.some.inj hx; cases hx), rfl⟩ (tO)
  ·
   replace hc2 := hs_ hc2
   try have hk : ¬ _ := fun h9 => absurd (hb.2 h9) (by rw [hc2]; decide)
   try have h77 : ¬ c.toNat = 77 := fun h9 => hk (.inl h9)
   try have h82 : ¬ c.toNat = 82 := fun h9 => hk (.inr h9)
   refine g_seq ?_
   refine g_region ?_
   refine gl_v rfl (o_eql rfl rfl) ?_
   refine gl_v rfl (o_assign rfl) ?_
   refine gl_nil ?_
   refine ge_then ?_
   refine g_cond rfl (fun hc5 => ?_) (fun hc5 => ?_)
   ·
    replace hc5 := hs_ hc5
    have h105 : c.toNat = 105 := by omega
    refine g_seq ?_
    refine g_region ?_
    refine gl_v rfl (o_move rfl) ?_
    refine gl_c rfl (o_call rfl (Value_spec s 0 big50 (by decide) hz) pA) ?_
    rintro _ R ⟨_, ⟨n, rfl, hn, rfl⟩, rfl⟩
    try simp only [List.cons_append, List.nil_append]
    refine gl_v rfl (o_move rfl) ?_
    refine gl_v rfl (o_extract rfl rfl) ?_
    refine gl_v rfl (o_extract rfl rfl) ?_
    refine gl_v rfl (o_assign rfl) ?_
    refine gl_v rfl (o_assign rfl) ?_
    refine gl_nil ?_
    refine ge_then ?_
    refine g_seq ?_
    refine g_region ?_
    refine gl_v rfl (o_move rfl) ?_
    refine gl_v rfl (o_convR (((IntKind.u64.wrap n).toNat : Nat) : Int) (u64_nat n) rfl) ?_
    first | refine gl_v rfl (o_fldS rfl) ?_ | refine gl_v rfl (o_fld rfl) ?_
    first | refine gl_u (o_store rfl rfl rfl rfl) ?_ | refine gl_u (o_storeS rfl rfl rfl (by first | assumption | omega | simp)) ?_
    refine gl_nil ?_
    refine ge_then ?_
    refine g_seq ?_
    refine g_region ?_
    first | refine gl_v rfl (o_loadSA rfl rfl rfl) ?_ | refine gl_v rfl (o_loadA rfl rfl rfl) ?_
    refine gl_v rfl (o_move rfl) ?_
    first | refine gl_u (o_storeSA rfl rfl rfl rfl (by simp; omega) (by simp)) ?_ | refine gl_u (o_storeA rfl rfl rfl rfl rfl) ?_
    refine gl_v rfl (o_assign rfl) ?_
    refine gl_nil ?_
    refine ge_then ?_
    refine g_ret ?_
    refine ge_block_ret ?_
    refine ge_then_ret ?_
    refine ret2ct (.inl rfl) rfl rfl rfl rfl rfl [] ⟨{ e with id := (IntKind.u64.wrap n).toNat }, by rw [partV_id h105, (map_get hn).1]; rfl, fun x hx => by rw [partV_id h105] at hx; cases hv : numV 0 big50 s with | none => rw [hv] at hx; cases hx | some m => rw [hv] at hx hn; have hm : m = n := hn; subst hm; have hr := numV_iff.1 hv; rw [IntKind.wrap_u64, Int.emod_eq_of_lt hr.1 (by have := hr.2.1; unfold big50 at this; omega)]; exact Option.some.inj hx, rfl⟩ (tO)
   ·
    replace hc5 := hs_ hc5
    have h105 : ¬ c.toNat = 105 := by omega
    refine g_skip ?_
    refine ge_block ?_
    refine ge_then ?_
    refine g_seq ?_
    refine g_region ?_
    refine gl_v rfl (o_move rfl) ?_
    refine gl_c rfl (o_call rfl (Value_spec s (-65535) 65535 (by omega) hz) pA) ?_
    rintro _ R ⟨_, ⟨n, rfl, hn, rfl⟩, rfl⟩
    try simp only [List.cons_append, List.nil_append]
    refine gl_v rfl (o_move rfl) ?_
    refine gl_v rfl (o_extract rfl rfl) ?_
    refine gl_v rfl (o_extract rfl rfl) ?_
    refine gl_v rfl (o_assign rfl) ?_
    refine gl_v rfl (o_assign rfl) ?_
    refine gl_nil ?_
    refine ge_then ?_
    refine g_seq ?_
    refine g_seq ?_
    refine g_region ?_
    refine gl_v rfl (o_move rfl) ?_
    refine gl_nil ?_
    refine ge_then ?_
    refine g_block ?_
    refine g_seq ?_
    refine g_region ?_
    refine gl_v rfl (o_eql rfl rfl) ?_
    refine gl_v rfl (o_assign rfl) ?_
    refine gl_nil ?_
    refine ge_then ?_
    refine g_cond rfl (fun hc6 => ?_) (fun hc6 => ?_)
    ·
     replace hc6 := hs_ hc6
     have h65 : c.toNat = 65 := by omega
     refine g_region ?_
     refine gl_v rfl (o_move rfl) ?_
     first | refine gl_v rfl (o_fldS rfl) ?_ | refine gl_v rfl (o_fld rfl) ?_
     first | refine gl_u (o_store rfl rfl rfl rfl) ?_ | refine gl_u (o_storeS rfl rfl rfl (by first | assumption | omega | simp)) ?_
     refine gl_nil ?_
     refine ge_block ?_
     refine ge_then ?_
     refine g_seq ?_
     refine g_region ?_
     first | refine gl_v rfl (o_loadSA rfl rfl rfl) ?_ | refine gl_v rfl (o_loadA rfl rfl rfl) ?_
     refine gl_v rfl (o_move rfl) ?_
     first | refine gl_u (o_storeSA rfl rfl rfl rfl (by simp; omega) (by simp)) ?_ | refine gl_u (o_storeA rfl rfl rfl rfl rfl) ?_
     refine gl_v rfl (o_assign rfl) ?_
     refine gl_nil ?_
     refine ge_then ?_
     refine g_ret ?_
     refine ret2ct (.inl rfl) rfl rfl rfl rfl rfl [] ⟨{ e with actor := n }, by rw [partV_num h77 h82 h105, (map_get hn).1]; rfl, fun x hx => by rw [partV_num h77 h82 h105] at hx; have := (map_get hn).2 x hx; simp only [if_pos h65] at this; exact this, rfl⟩ (tO)
    ·
     replace hc6 := hs_ hc6
     have h65 : ¬ c.toNat = 65 := by omega
     refine g_seq ?_
     refine g_region ?_
     refine gl_v rfl (o_eql rfl rfl) ?_
     refine gl_v rfl (o_assign rfl) ?_
     refine gl_nil ?_
     refine ge_then ?_
     refine g_cond rfl (fun hc7 => ?_) (fun hc7 => ?_)
     ·
      replace hc7 := hs_ hc7
      have h70 : c.toNat = 70 := by omega
      refine g_region ?_
      refine gl_v rfl (o_move rfl) ?_
      first | refine gl_v rfl (o_fldS rfl) ?_ | refine gl_v rfl (o_fld rfl) ?_
      first | refine gl_u (o_store rfl rfl rfl rfl) ?_ | refine gl_u (o_storeS rfl rfl rfl (by first | assumption | omega | simp)) ?_
      refine gl_nil ?_
      refine ge_block ?_
      refine ge_then ?_
      refine g_seq ?_
      refine g_region ?_
      first | refine gl_v rfl (o_loadSA rfl rfl rfl) ?_ | refine gl_v rfl (o_loadA rfl rfl rfl) ?_
      refine gl_v rfl (o_move rfl) ?_
      first | refine gl_u (o_storeSA rfl rfl rfl rfl (by simp; omega) (by simp)) ?_ | refine gl_u (o_storeA rfl rfl rfl rfl rfl) ?_
      refine gl_v rfl (o_assign rfl) ?_
      refine gl_nil ?_
      refine ge_then ?_
      refine g_ret ?_
      refine ret2ct (.inl rfl) rfl rfl rfl rfl rfl [] ⟨{ e with from' := n }, by rw [partV_num h77 h82 h105, (map_get hn).1]; rfl, fun x hx => by rw [partV_num h77 h82 h105] at hx; have := (map_get hn).2 x hx; simp only [if_neg h65, if_pos h70] at this; exact this, rfl⟩ (tO)
     ·
      replace hc7 := hs_ hc7
      have h70 : ¬ c.toNat = 70 := by omega
      refine g_seq ?_
      refine g_region ?_
      refine gl_v rfl (o_eql rfl rfl) ?_
      refine gl_v rfl (o_assign rfl) ?_
      refine gl_nil ?_
      refine ge_then ?_
      refine g_cond rfl (fun hc8 => ?_) (fun hc8 => ?_)
      ·
       replace hc8 := hs_ hc8
       have h84 : c.toNat = 84 := by omega
       refine g_region ?_
       refine gl_v rfl (o_move rfl) ?_
       first | refine gl_v rfl (o_fldS rfl) ?_ | refine gl_v rfl (o_fld rfl) ?_
       first | refine gl_u (o_store rfl rfl rfl rfl) ?_ | refine gl_u (o_storeS rfl rfl rfl (by first | assumption | omega | simp)) ?_
       refine gl_nil ?_
       refine ge_block ?_
       refine ge_then ?_
       refine g_seq ?_
       refine g_region ?_
       first | refine gl_v rfl (o_loadSA rfl rfl rfl) ?_ | refine gl_v rfl (o_loadA rfl rfl rfl) ?_
       refine gl_v rfl (o_move rfl) ?_
       first | refine gl_u (o_storeSA rfl rfl rfl rfl (by simp; omega) (by simp)) ?_ | refine gl_u (o_storeA rfl rfl rfl rfl rfl) ?_
       refine gl_v rfl (o_assign rfl) ?_
       refine gl_nil ?_
       refine ge_then ?_
       refine g_ret ?_
       refine ret2ct (.inl rfl) rfl rfl rfl rfl rfl [] ⟨{ e with «to» := n }, by rw [partV_num h77 h82 h105, (map_get hn).1]; rfl, fun x hx => by rw [partV_num h77 h82 h105] at hx; have := (map_get hn).2 x hx; simp only [if_neg h65, if_neg h70, if_pos h84] at this; exact this, rfl⟩ (tO)
      ·
       replace hc8 := hs_ hc8
       have h84 : ¬ c.toNat = 84 := by omega
       refine g_seq ?_
       refine g_region ?_
       refine gl_v rfl (o_eql rfl rfl) ?_
       refine gl_v rfl (o_assign rfl) ?_
       refine gl_nil ?_
       refine ge_then ?_
       refine g_cond rfl (fun hc9 => ?_) (fun hc9 => ?_)
       ·
        replace hc9 := hs_ hc9
        have h87 : c.toNat = 87 := by omega
        refine g_region ?_
        refine gl_v rfl (o_move rfl) ?_
        first | refine gl_v rfl (o_fldS rfl) ?_ | refine gl_v rfl (o_fld rfl) ?_
        first | refine gl_u (o_store rfl rfl rfl rfl) ?_ | refine gl_u (o_storeS rfl rfl rfl (by first | assumption | omega | simp)) ?_
        refine gl_nil ?_
        refine ge_block ?_
        refine ge_then ?_
        refine g_seq ?_
        refine g_region ?_
        first | refine gl_v rfl (o_loadSA rfl rfl rfl) ?_ | refine gl_v rfl (o_loadA rfl rfl rfl) ?_
        refine gl_v rfl (o_move rfl) ?_
        first | refine gl_u (o_storeSA rfl rfl rfl rfl (by simp; omega) (by simp)) ?_ | refine gl_u (o_storeA rfl rfl rfl rfl rfl) ?_
        refine gl_v rfl (o_assign rfl) ?_
        refine gl_nil ?_
        refine ge_then ?_
        refine g_ret ?_
        refine ret2ct (.inl rfl) rfl rfl rfl rfl rfl [] ⟨{ e with why := n }, by rw [partV_num h77 h82 h105, (map_get hn).1]; rfl, fun x hx => by rw [partV_num h77 h82 h105] at hx; have := (map_get hn).2 x hx; simp only [if_neg h65, if_neg h70, if_neg h84, if_pos h87] at this; exact this, rfl⟩ (tO)
       ·
        replace hc9 := hs_ hc9
        have h87 : ¬ c.toNat = 87 := by omega
        refine g_seq ?_
        refine g_region ?_
        refine gl_v rfl (o_eql rfl rfl) ?_
        refine gl_v rfl (o_assign rfl) ?_
        refine gl_nil ?_
        refine ge_then ?_
        refine g_cond rfl (fun hc10 => ?_) (fun hc10 => ?_)
        ·
         replace hc10 := hs_ hc10
         refine g_region ?_
         refine gl_v rfl (o_move rfl) ?_
         first | refine gl_v rfl (o_fldS rfl) ?_ | refine gl_v rfl (o_fld rfl) ?_
         first | refine gl_u (o_store rfl rfl rfl rfl) ?_ | refine gl_u (o_storeS rfl rfl rfl (by first | assumption | omega | simp)) ?_
         refine gl_nil ?_
         refine ge_block ?_
         refine ge_then ?_
         refine g_seq ?_
         refine g_region ?_
         first | refine gl_v rfl (o_loadSA rfl rfl rfl) ?_ | refine gl_v rfl (o_loadA rfl rfl rfl) ?_
         refine gl_v rfl (o_move rfl) ?_
         first | refine gl_u (o_storeSA rfl rfl rfl rfl (by simp; omega) (by simp)) ?_ | refine gl_u (o_storeA rfl rfl rfl rfl rfl) ?_
         refine gl_v rfl (o_assign rfl) ?_
         refine gl_nil ?_
         refine ge_then ?_
         refine g_ret ?_
         refine ret2ct (.inl rfl) rfl rfl rfl rfl rfl [] ⟨{ e with n := n }, by rw [partV_num h77 h82 h105, (map_get hn).1]; rfl, fun x hx => by rw [partV_num h77 h82 h105] at hx; have := (map_get hn).2 x hx; simp only [if_neg h65, if_neg h70, if_neg h84, if_neg h87] at this; exact this, rfl⟩ (tO)
        ·
         replace hc10 := hs_ hc10
         exfalso; omega

set_option maxRecDepth 8000 in
set_option maxHeartbeats 3000000 in
theorem rReadEvent_spec (l : By) (hl : l.length ≤ 4000000000) : FnS Tryd.prog 16 [S l] [] (fun u Bs => u = (match readV l with | some e => Value.tuple #[.agg (evtC e).toArray, .bool true] | none => Value.tuple #[.agg (evtC evt0).toArray, .bool false]) ∧ Bs = []) := by
 refine fn_body Tryd.func16 rfl rfl rfl ?_
 intro W0 R
 simp only [List.zipIdx_cons, List.zipIdx_nil, List.map_cons, List.map_nil, Nat.zero_add, Nat.reduceAdd, List.cons_append, List.nil_append]
 obtain ⟨w0, ws, hsp⟩ := split_cons (c := 32) (l := l)
 have hwl : ∀ w ∈ w0 :: ws, w.length ≤ 4000000000 := fun w hw => by have := split_wlen (c := 32) l w (by rw [hsp]; exact hw); omega
 have hsl := split_len (c := 32) l
 rw [hsp] at hsl
 have hl1 : (w0 :: ws).length = ws.length + 1 := rfl
 refine g_seq ?_
 refine g_region ?_
 refine gl_n rfl (o_alloc) ?_
 rintro _ _ ⟨b2, rfl, rfl⟩
 refine gl_v rfl (o_assign rfl) ?_
 refine gl_nil ?_
 refine ge_then ?_
 refine g_seq ?_
 refine g_region ?_
 refine gl_v rfl (o_move rfl) ?_
 refine gl_c rfl (o_call rfl (rWords_spec l hl) pA) ?_
 rintro _ R ⟨_, ⟨a, c, rfl, rfl⟩, rfl⟩
 try simp only [List.cons_append, List.nil_append]
 rw [hsp]
 refine gl_v rfl (o_assign rfl) ?_
 refine gl_nil ?_
 refine ge_then ?_
 refine g_seq ?_
 refine g_seq ?_
 refine g_region ?_
 refine gl_v rfl (o_assign rfl) ?_
 refine gl_nil ?_
 refine ge_then ?_
 refine g_block ?_
 refine g_loop (ι := Nat) (fun k => 1 ≤ k ∧ k ≤ 16 ∧ ∀ j : Nat, 1 ≤ j → j < k → ¬ (w0 = (formV j).1 ∧ fits j ws)) (fun k => [(5, I64 k), (4, .slice a (w0 :: ws).length c), (2, ptr b2 0)]) (fun _ => own (.slice a (w0 :: ws).length c) 9 1 (w0 :: ws).length (wsC (w0 :: ws)) :: cel b2 37 (evtC (evt0)) :: R) (fun k => 16 - k) 1 (⟨Nat.le_refl _, by omega, fun j h1 h2 => by omega⟩) (Keep.cons rfl (Keep.cons rfl (Keep.cons rfl (Keep.nil)))) (tO) ?_
 rintro k ⟨hk1, hk8, hk⟩
 replace hk1 : 1 ≤ k := hk1
 replace hk8 : k ≤ 16 := hk8
 replace hk : ∀ j : Nat, 1 ≤ j → j < k → ¬ (w0 = (formV j).1 ∧ fits j ws) := hk
 refine g_seq ?_
 refine g_seq ?_
 refine g_region ?_
 refine gl_v rfl (o_move rfl) ?_
 refine gl_v rfl (o_leq rfl rfl) ?_
 refine gl_nil ?_
 refine ge_then ?_
 refine g_cond rfl (fun hc1 => ?_) (fun hc1 => ?_)
 ·
  replace hc1 := hs_ hc1
  have hk7 : k ≤ 15 := by omega
  refine g_skip ?_
  refine ge_then ?_
  refine g_seq ?_
  refine g_block ?_
  refine g_seq ?_
  refine g_region ?_
  refine gl_v rfl (o_move rfl) ?_
  refine gl_c rfl (o_call rfl (rEventForm_spec k) pA) ?_
  rintro _ R ⟨_, ⟨rfl, rfl⟩, rfl⟩
  try simp only [List.cons_append, List.nil_append]
  have hfl := form_len k
  refine gl_v rfl (o_move rfl) ?_
  refine gl_v rfl (o_extract rfl rfl) ?_
  refine gl_v rfl (o_extract rfl rfl) ?_
  refine gl_v rfl (o_assign rfl) ?_
  refine gl_v rfl (o_assign rfl) ?_
  refine gl_nil ?_
  refine ge_then ?_
  refine g_cut (fun act wo =>  HasSl Tryd.f16.ntmps [(8, .bool (tmV k ws)), (6, S (formV k).1), (7, S (formV k).2), (5, I64 k), (4, .slice a (w0 :: ws).length c), (2, ptr b2 0)] act ∧ St W0 (own (.slice a (w0 :: ws).length c) 9 1 (w0 :: ws).length (wsC (w0 :: ws)) :: cel b2 37 (evtC (evt0)) :: R) wo) ?_ ?_
  ·
   rcases tm_cases k ws with ⟨h2, ht⟩ | ⟨h2, h6, ht⟩ | ⟨h2, h6, w, hw5, hwt, ht⟩ | ⟨h2, h6, w, hw5, hwt, ht⟩
   ·
    refine g_region ?_
    refine gl_v rfl (o_move rfl) ?_
    refine gl_v rfl (o_is (c := false) (by exact decide_eq_false (by omega)) (o_eql rfl rfl)) ?_
    refine gl_v rfl (o_move rfl) ?_
    refine gl_gF rfl rfl rfl rfl ?_
    refine gl_gF rfl rfl rfl rfl ?_
    refine gl_gF rfl rfl rfl rfl ?_
    refine gl_v rfl (o_pickF rfl rfl rfl) ?_
    refine gl_v rfl (o_move rfl) ?_
    refine gl_gF rfl rfl rfl rfl ?_
    refine gl_gF rfl rfl rfl rfl ?_
    refine gl_gF rfl rfl rfl rfl ?_
    refine gl_gF rfl rfl rfl rfl ?_
    refine gl_v rfl (o_pickF rfl rfl rfl) ?_
    refine gl_v rfl (o_assign rfl) ?_
    refine gl_nil ?_
    exact fun act wo hsl st => ⟨hsl.keep (by rw [ht]; exact (Keep.cons rfl (Keep.cons rfl (Keep.cons rfl (Keep.cons rfl (Keep.cons rfl (Keep.cons rfl (Keep.nil)))))))), st.imp (tO)⟩
   ·
    refine g_region ?_
    refine gl_v rfl (o_move rfl) ?_
    refine gl_v rfl (o_is (c := true) (by exact decide_eq_true (by omega)) (o_eql rfl rfl)) ?_
    refine gl_v rfl (o_move rfl) ?_
    refine gl_gT rfl rfl rfl ?_
    refine gl_v rfl (o_move rfl) ?_
    refine gl_gT rfl rfl rfl ?_
    refine gl_v rfl (o_lenL rfl) ?_
    refine gl_gT rfl rfl rfl ?_
    refine gl_v rfl (o_is (c := false) (by exact decide_eq_false (by omega)) (o_eql rfl rfl)) ?_
    refine gl_v rfl (o_pickT rfl rfl rfl) ?_
    refine gl_v rfl (o_move rfl) ?_
    refine gl_gF rfl rfl rfl rfl ?_
    refine gl_gF rfl rfl rfl rfl ?_
    refine gl_gF rfl rfl rfl rfl ?_
    refine gl_gF rfl rfl rfl rfl ?_
    refine gl_v rfl (o_pickF rfl rfl rfl) ?_
    refine gl_v rfl (o_assign rfl) ?_
    refine gl_nil ?_
    exact fun act wo hsl st => ⟨hsl.keep (by rw [ht]; exact (Keep.cons rfl (Keep.cons rfl (Keep.cons rfl (Keep.cons rfl (Keep.cons rfl (Keep.cons rfl (Keep.nil)))))))), st.imp (tO)⟩
   ·
    refine g_region ?_
    refine gl_v rfl (o_move rfl) ?_
    refine gl_v rfl (o_is (c := true) (by exact decide_eq_true (by omega)) (o_eql rfl rfl)) ?_
    refine gl_v rfl (o_move rfl) ?_
    refine gl_gT rfl rfl rfl ?_
    refine gl_v rfl (o_move rfl) ?_
    refine gl_gT rfl rfl rfl ?_
    refine gl_v rfl (o_lenL rfl) ?_
    refine gl_gT rfl rfl rfl ?_
    refine gl_v rfl (o_is (c := true) (by exact decide_eq_true (by omega)) (o_eql rfl rfl)) ?_
    refine gl_v rfl (o_pickT rfl rfl rfl) ?_
    refine gl_v rfl (o_move rfl) ?_
    refine gl_gT rfl rfl rfl ?_
    refine gl_v rfl (o_move rfl) ?_
    refine gl_gT rfl rfl rfl ?_
    refine gl_v rfl (o_idxS (j := 6) rfl rfl (by omega)) ?_
    refine gl_gT rfl rfl rfl ?_
    refine gl_v rfl (o_loadS rfl (show (wsC (w0 :: ws))[6 * 1]? = some (S w) by show (wsC ws)[5]? = _; rw [List.getElem?_map, hw5]; rfl)) ?_
    refine gl_gT rfl rfl rfl ?_
    refine gl_v rfl (o_is (c := false) (by exact decide_eq_false hwt) (o_eqls rfl rfl)) ?_
    refine gl_v rfl (o_pickT rfl rfl rfl) ?_
    refine gl_v rfl (o_assign rfl) ?_
    refine gl_nil ?_
    exact fun act wo hsl st => ⟨hsl.keep (by rw [ht]; exact (Keep.cons rfl (Keep.cons rfl (Keep.cons rfl (Keep.cons rfl (Keep.cons rfl (Keep.cons rfl (Keep.nil)))))))), st.imp (tO)⟩
   ·
    refine g_region ?_
    refine gl_v rfl (o_move rfl) ?_
    refine gl_v rfl (o_is (c := true) (by exact decide_eq_true (by omega)) (o_eql rfl rfl)) ?_
    refine gl_v rfl (o_move rfl) ?_
    refine gl_gT rfl rfl rfl ?_
    refine gl_v rfl (o_move rfl) ?_
    refine gl_gT rfl rfl rfl ?_
    refine gl_v rfl (o_lenL rfl) ?_
    refine gl_gT rfl rfl rfl ?_
    refine gl_v rfl (o_is (c := true) (by exact decide_eq_true (by omega)) (o_eql rfl rfl)) ?_
    refine gl_v rfl (o_pickT rfl rfl rfl) ?_
    refine gl_v rfl (o_move rfl) ?_
    refine gl_gT rfl rfl rfl ?_
    refine gl_v rfl (o_move rfl) ?_
    refine gl_gT rfl rfl rfl ?_
    refine gl_v rfl (o_idxS (j := 6) rfl rfl (by omega)) ?_
    refine gl_gT rfl rfl rfl ?_
    refine gl_v rfl (o_loadS rfl (show (wsC (w0 :: ws))[6 * 1]? = some (S w) by show (wsC ws)[5]? = _; rw [List.getElem?_map, hw5]; rfl)) ?_
    refine gl_gT rfl rfl rfl ?_
    refine gl_v rfl (o_is (c := true) (by exact decide_eq_true hwt) (o_eqls rfl rfl)) ?_
    refine gl_v rfl (o_pickT rfl rfl rfl) ?_
    refine gl_v rfl (o_assign rfl) ?_
    refine gl_nil ?_
    exact fun act wo hsl st => ⟨hsl.keep (by rw [ht]; exact (Keep.cons rfl (Keep.cons rfl (Keep.cons rfl (Keep.cons rfl (Keep.cons rfl (Keep.cons rfl (Keep.nil)))))))), st.imp (tO)⟩
  ·
   rintro act wo ⟨hsl, st⟩
   refine g_of ?_ hsl st
   clear hsl st act wo
   refine g_cut (fun act wo => w0 = (formV k).1 ∧ fits k ws ∧ HasSl Tryd.f16.ntmps [(8, .bool (tmV k ws)), (7, S (formV k).2), (5, I64 k), (4, .slice a (w0 :: ws).length c), (2, ptr b2 0)] act ∧ St W0 (own (.slice a (w0 :: ws).length c) 9 1 (w0 :: ws).length (wsC (w0 :: ws)) :: cel b2 37 (evtC (evt0)) :: R) wo) ?_ ?_
   ·
    refine g_seq ?_
    rcases (show (w0 = (formV k).1 ∧ ws.length = (formV k).2.length) ∨ (w0 = (formV k).1 ∧ ¬ ws.length = (formV k).2.length ∧ tmV k ws = true) ∨ (w0 = (formV k).1 ∧ ¬ ws.length = (formV k).2.length ∧ tmV k ws = false) ∨ ¬ w0 = (formV k).1 by by_cases h1 : w0 = (formV k).1 <;> by_cases h2 : ws.length = (formV k).2.length <;> cases htx : tmV k ws <;> simp [h1, h2]) with ⟨hverb, hlen⟩ | ⟨hverb, hlen, htm⟩ | ⟨hverb, hlen, htm⟩ | hverb
    ·
     refine g_region ?_
     refine gl_v rfl (o_move rfl) ?_
     refine gl_v rfl (o_idxS (j := 0) rfl rfl (by omega)) ?_
     refine gl_v rfl (o_loadS rfl (show (wsC (w0 :: ws))[0 * 1]? = some (S w0) from rfl)) ?_
     refine gl_v rfl (o_move rfl) ?_
     refine gl_v rfl (o_is (c := false) (by rw [decide_eq_true hverb]; rfl) (o_neqs rfl rfl)) ?_
     refine gl_v rfl (o_move rfl) ?_
     refine gl_gT rfl rfl rfl ?_
     refine gl_v rfl (o_move rfl) ?_
     refine gl_gT rfl rfl rfl ?_
     refine gl_v rfl (o_lenL rfl) ?_
     refine gl_gT rfl rfl rfl ?_
     refine gl_v rfl (o_move rfl) ?_
     refine gl_gT rfl rfl rfl ?_
     refine gl_v rfl (o_lens rfl) ?_
     refine gl_gT rfl rfl rfl ?_
     refine gl_v rfl (o_addR (1 + ((formV k).2.length : Int)) (by rw [wr_i64 (by omega)]) rfl rfl) ?_
     refine gl_gT rfl rfl rfl ?_
     refine gl_v rfl (o_is (c := false) (by first | exact decide_eq_false (by omega) | (rw [decide_eq_true (by omega)]; rfl)) (o_neq rfl rfl)) ?_
     refine gl_gT rfl rfl rfl ?_
     refine gl_v rfl (o_move rfl) ?_
     refine gl_gF rfl rfl rfl rfl ?_
     refine gl_gF rfl rfl rfl rfl ?_
     refine gl_gT rfl rfl rfl ?_
     refine gl_v rfl (o_pickF rfl rfl rfl) ?_
     refine gl_v rfl (o_pickF rfl rfl rfl) ?_
     refine gl_nil ?_
     refine ge_then ?_
     refine g_cond_false rfl ?_
     refine g_skip ?_
     exact fun act wo hsl st => ⟨hverb, .inl hlen, hsl.keep (Keep.cons rfl (Keep.cons rfl (Keep.cons rfl (Keep.cons rfl (Keep.cons rfl (Keep.nil)))))), st.imp (tO)⟩
    ·
     refine g_region ?_
     refine gl_v rfl (o_move rfl) ?_
     refine gl_v rfl (o_idxS (j := 0) rfl rfl (by omega)) ?_
     refine gl_v rfl (o_loadS rfl (show (wsC (w0 :: ws))[0 * 1]? = some (S w0) from rfl)) ?_
     refine gl_v rfl (o_move rfl) ?_
     refine gl_v rfl (o_is (c := false) (by rw [decide_eq_true hverb]; rfl) (o_neqs rfl rfl)) ?_
     refine gl_v rfl (o_move rfl) ?_
     refine gl_gT rfl rfl rfl ?_
     refine gl_v rfl (o_move rfl) ?_
     refine gl_gT rfl rfl rfl ?_
     refine gl_v rfl (o_lenL rfl) ?_
     refine gl_gT rfl rfl rfl ?_
     refine gl_v rfl (o_move rfl) ?_
     refine gl_gT rfl rfl rfl ?_
     refine gl_v rfl (o_lens rfl) ?_
     refine gl_gT rfl rfl rfl ?_
     refine gl_v rfl (o_addR (1 + ((formV k).2.length : Int)) (by rw [wr_i64 (by omega)]) rfl rfl) ?_
     refine gl_gT rfl rfl rfl ?_
     refine gl_v rfl (o_is (c := true) (by first | exact decide_eq_true (by omega) | (rw [decide_eq_false (by omega)]; rfl)) (o_neq rfl rfl)) ?_
     refine gl_gT rfl rfl rfl ?_
     refine gl_v rfl (o_move rfl) ?_
     refine gl_gT rfl rfl rfl ?_
     refine gl_v rfl (o_move rfl) ?_
     refine gl_gT rfl rfl rfl ?_
     refine gl_v rfl (o_is (c := false) (by rw [htm]; rfl) (o_not rfl)) ?_
     refine gl_gT rfl rfl rfl ?_
     refine gl_v rfl (o_pickT rfl rfl rfl) ?_
     refine gl_v rfl (o_pickF rfl rfl rfl) ?_
     refine gl_nil ?_
     refine ge_then ?_
     refine g_cond_false rfl ?_
     refine g_skip ?_
     exact fun act wo hsl st => ⟨hverb, .inr htm, hsl.keep (Keep.cons rfl (Keep.cons rfl (Keep.cons rfl (Keep.cons rfl (Keep.cons rfl (Keep.nil)))))), st.imp (tO)⟩
    ·
     refine g_region ?_
     refine gl_v rfl (o_move rfl) ?_
     refine gl_v rfl (o_idxS (j := 0) rfl rfl (by omega)) ?_
     refine gl_v rfl (o_loadS rfl (show (wsC (w0 :: ws))[0 * 1]? = some (S w0) from rfl)) ?_
     refine gl_v rfl (o_move rfl) ?_
     refine gl_v rfl (o_is (c := false) (by rw [decide_eq_true hverb]; rfl) (o_neqs rfl rfl)) ?_
     refine gl_v rfl (o_move rfl) ?_
     refine gl_gT rfl rfl rfl ?_
     refine gl_v rfl (o_move rfl) ?_
     refine gl_gT rfl rfl rfl ?_
     refine gl_v rfl (o_lenL rfl) ?_
     refine gl_gT rfl rfl rfl ?_
     refine gl_v rfl (o_move rfl) ?_
     refine gl_gT rfl rfl rfl ?_
     refine gl_v rfl (o_lens rfl) ?_
     refine gl_gT rfl rfl rfl ?_
     refine gl_v rfl (o_addR (1 + ((formV k).2.length : Int)) (by rw [wr_i64 (by omega)]) rfl rfl) ?_
     refine gl_gT rfl rfl rfl ?_
     refine gl_v rfl (o_is (c := true) (by first | exact decide_eq_true (by omega) | (rw [decide_eq_false (by omega)]; rfl)) (o_neq rfl rfl)) ?_
     refine gl_gT rfl rfl rfl ?_
     refine gl_v rfl (o_move rfl) ?_
     refine gl_gT rfl rfl rfl ?_
     refine gl_v rfl (o_move rfl) ?_
     refine gl_gT rfl rfl rfl ?_
     refine gl_v rfl (o_is (c := true) (by rw [htm]; rfl) (o_not rfl)) ?_
     refine gl_gT rfl rfl rfl ?_
     refine gl_v rfl (o_pickT rfl rfl rfl) ?_
     refine gl_v rfl (o_pickF rfl rfl rfl) ?_
     refine gl_nil ?_
     refine ge_then ?_
     refine g_cond_true rfl ?_
     refine g_exit ?_
     refine ge_then_exit ?_
     refine ge_block_exit ?_
     refine ge_then ?_
     refine g_region ?_
     refine gl_v rfl (o_move rfl) ?_
     refine gl_v rfl (o_addR ((k + 1 : Nat) : Int) (by rw [wr_i64 (by omega)]; omega) rfl rfl) ?_
     refine gl_v rfl (o_assign rfl) ?_
     refine gl_nil ?_
     refine ge_round (k + 1) ⟨by show 1 ≤ k + 1; omega, by show k + 1 ≤ 16; omega, fun j h1 h2 h3 => ?_⟩ (by show 16 - (k + 1) < 16 - k; omega) (Keep.cons rfl (Keep.cons rfl (Keep.cons rfl (Keep.nil)))) (tO)
     by_cases h9 : j = k
     · rw [h9] at h3; exact h3.2.elim hlen (by rw [htm]; decide)
     · exact hk j h1 (by omega) h3
    ·
     refine g_region ?_
     refine gl_v rfl (o_move rfl) ?_
     refine gl_v rfl (o_idxS (j := 0) rfl rfl (by omega)) ?_
     refine gl_v rfl (o_loadS rfl (show (wsC (w0 :: ws))[0 * 1]? = some (S w0) from rfl)) ?_
     refine gl_v rfl (o_move rfl) ?_
     refine gl_v rfl (o_is (c := true) (by rw [decide_eq_false hverb]; rfl) (o_neqs rfl rfl)) ?_
     refine gl_v rfl (o_move rfl) ?_
     refine gl_gF rfl rfl rfl rfl ?_
     refine gl_gF rfl rfl rfl rfl ?_
     refine gl_gF rfl rfl rfl rfl ?_
     refine gl_gF rfl rfl rfl rfl ?_
     refine gl_gF rfl rfl rfl rfl ?_
     refine gl_gF rfl rfl rfl rfl ?_
     refine gl_gF rfl rfl rfl rfl ?_
     refine gl_gU rfl rfl rfl ?_
     refine gl_gU rfl rfl rfl ?_
     refine gl_gF rfl rfl rfl rfl ?_
     refine gl_v rfl (o_pickT rfl rfl rfl) ?_
     refine gl_nil ?_
     refine ge_then ?_
     refine g_cond_true rfl ?_
     refine g_exit ?_
     refine ge_then_exit ?_
     refine ge_block_exit ?_
     refine ge_then ?_
     refine g_region ?_
     refine gl_v rfl (o_move rfl) ?_
     refine gl_v rfl (o_addR ((k + 1 : Nat) : Int) (by rw [wr_i64 (by omega)]; omega) rfl rfl) ?_
     refine gl_v rfl (o_assign rfl) ?_
     refine gl_nil ?_
     refine ge_round (k + 1) ⟨by show 1 ≤ k + 1; omega, by show k + 1 ≤ 16; omega, fun j h1 h2 h3 => ?_⟩ (by show 16 - (k + 1) < 16 - k; omega) (Keep.cons rfl (Keep.cons rfl (Keep.cons rfl (Keep.nil)))) (tO)
     by_cases h9 : j = k
     · rw [h9] at h3; exact hverb h3.1
     · exact hk j h1 (by omega) h3
   ·
    rintro act wo ⟨hverb, hft, hsl, st⟩
    refine g_of ?_ hsl st
    clear hsl st act wo
    have hfit := fits_read hsp ⟨hk1, hk7⟩ hverb hft
    have hfit2 := hfit.2
    refine g_seq ?_
    refine g_region ?_
    refine gl_v rfl (o_move rfl) ?_
    refine gl_v rfl (o_move rfl) ?_
    refine gl_v rfl (o_build rfl rfl) ?_
    refine gl_n rfl (o_alloc) ?_
    rintro _ _ ⟨b9, rfl, rfl⟩
    first | refine gl_u (o_storeSA rfl rfl rfl rfl (by simp; omega) (by simp)) ?_ | refine gl_u (o_storeA rfl rfl rfl rfl rfl) ?_
    refine gl_nil ?_
    refine ge_then ?_
    refine g_seq ?_
    refine g_seq ?_
    refine g_region ?_
    refine gl_v rfl (o_assign rfl) ?_
    refine gl_nil ?_
    refine ge_then ?_
    refine g_block ?_
    refine g_loop (ι := Nat × Evt) (fun x => x.1 ≤ (formV k).2.length ∧ pfold ((formV k).2.drop x.1) (ws.drop x.1) x.2 = readV l) (fun x => [(10, I64 x.1), (9, ptr b9 0), (7, S (formV k).2), (5, I64 k), (4, .slice a (w0 :: ws).length c), (2, ptr b2 0)]) (fun x => cel b9 37 (evtC (x.2)) :: own (.slice a (w0 :: ws).length c) 9 1 (w0 :: ws).length (wsC (w0 :: ws)) :: cel b2 37 (evtC (evt0)) :: R) (fun x => (formV k).2.length - x.1) (0, { evt0 with kind := k, timed := tmV k ws }) (⟨Nat.zero_le _, hfit.1⟩) (Keep.cons rfl (Keep.cons rfl (Keep.cons rfl (Keep.cons rfl (Keep.cons rfl (Keep.cons rfl (Keep.nil))))))) (tO) ?_
    rintro ⟨i, e⟩ ⟨hi, hI⟩
    replace hi : i ≤ (formV k).2.length := hi
    replace hI : pfold ((formV k).2.drop i) (ws.drop i) e = readV l := hI
    dsimp only
    refine g_seq ?_
    refine g_seq ?_
    refine g_region ?_
    refine gl_v rfl (o_move rfl) ?_
    refine gl_v rfl (o_move rfl) ?_
    refine gl_v rfl (o_lens rfl) ?_
    refine gl_v rfl (o_lss rfl rfl) ?_
    refine gl_nil ?_
    refine ge_then ?_
    refine g_cond rfl (fun hc2 => ?_) (fun hc2 => ?_)
    ·
     replace hc2 := hs_ hc2
     have hi1 : i < (formV k).2.length := by omega
     obtain ⟨x, hx⟩ : ∃ x, (formV k).2[i]? = some x := ⟨_, List.getElem?_eq_getElem hi1⟩
     obtain ⟨w, hw⟩ : ∃ w, ws[i]? = some w := ⟨_, List.getElem?_eq_getElem (show i < ws.length by omega)⟩
     refine g_skip ?_
     refine ge_then ?_
     refine g_seq ?_
     refine g_block ?_
     refine g_seq ?_
     refine g_region ?_
     refine gl_v rfl (o_assign rfl) ?_
     refine gl_nil ?_
     refine ge_then ?_
     refine g_seq ?_
     refine g_draw [9, 13] [13] [(0, .loc), (1, .loc), (2, .loc), (3, .loc), (4, .loc), (5, .loc), (6, .loc), (7, .loc), (8, .loc), (9, .eff), (10, .loc), (11, .loc), (12, .stab), (13, .eff), (14, .loc)] [] mixed (by kernel_rfl) ?_
     first | refine go_v rfl .none rfl (o_loadSA rfl rfl rfl) ?_ | refine go_v rfl .none rfl (o_loadA rfl rfl rfl) ?_
     refine go_v rfl .none rfl (o_move rfl) ?_
     refine go_v rfl .none rfl (o_move rfl) ?_
     refine go_v rfl .none rfl (o_index_string (i := i) rfl rfl hx) ?_
     refine go_v rfl .none rfl (o_move rfl) ?_
     refine go_v rfl .none rfl (o_move rfl) ?_
     refine go_v rfl .none rfl (o_addR ((i + 1 : Nat) : Int) (by rw [wr_i64 (by omega)]; omega) rfl rfl) ?_
     refine go_v rfl .none rfl (o_idxS (j := i + 1) rfl rfl (by omega)) ?_
     refine go_v rfl .none rfl (o_loadS rfl (show (wsC (w0 :: ws))[(i + 1) * 1]? = some (S w) by rw [Nat.mul_one]; show (wsC ws)[i]? = _; rw [List.getElem?_map, hw]; rfl)) ?_
     refine go_c rfl .none rfl (o_call rfl (part_spec e x w (form_okL k x (List.mem_of_getElem? hx)) (hwl w (List.mem_cons_of_mem _ (List.mem_of_getElem? hw)))) pA) ?_
     rintro _ R ⟨_, ⟨e', rfl, he', rfl⟩, rfl⟩
     try simp only [List.cons_append, List.nil_append]
     refine ⟨(fun hG => absurd hG (by decide)), ?_⟩
     refine go_v rfl .none rfl (o_move rfl) ?_
     refine go_v rfl .none rfl (o_extract rfl rfl) ?_
     refine go_vs rfl .none rfl (o_extract rfl rfl) (fun _ _ => trivial) ?_
     first | refine go_u rfl .none (o_storeSA rfl rfl rfl rfl (by simp; omega) (by simp)) (fun _ => (fun _ _ => trivial)) ?_ | refine go_u rfl .none (o_storeA rfl rfl rfl rfl rfl) (fun _ => (fun _ _ => trivial)) ?_
     refine go_v rfl .none rfl (o_assign rfl) ?_
     refine go_nil ?_
     refine ge_then ?_
     refine g_seq ?_
     refine g_region ?_
     refine gl_v rfl (o_move rfl) ?_
     refine gl_v rfl (o_not rfl) ?_
     refine gl_nil ?_
     refine ge_then ?_
     refine g_cond rfl (fun hc3 => ?_) (fun hc3 => ?_)
     ·
      replace hc3 := hs_ hc3
      have hsn : (partV x w e).isSome = false := by simpa using hc3
      refine g_seq ?_
      refine g_region ?_
      refine gl_v rfl (o_build rfl rfl) ?_
      first | refine gl_u (o_storeSA rfl rfl rfl rfl (by simp; omega) (by simp)) ?_ | refine gl_u (o_storeA rfl rfl rfl rfl rfl) ?_
      refine gl_v rfl (o_assign rfl) ?_
      refine gl_nil ?_
      refine ge_then ?_
      refine g_ret ?_
      refine ge_block_ret ?_
      refine ge_then_ret ?_
      refine ge_then_ret ?_
      refine ge_block_ret ?_
      refine ge_then_ret ?_
      refine ge_block_ret ?_
      refine ge_then_ret ?_
      refine ge_then_ret ?_
      refine ge_block_ret ?_
      refine ge_then_ret ?_
      rw [show readV l = none by rw [← hI, fold_step hx hw, isSome_noE hsn]; rfl]
      refine ret2ct (.inl rfl) rfl rfl rfl rfl rfl [] ⟨rfl, rfl⟩ (tO)
     ·
      replace hc3 := hs_ hc3
      have hsn := isSome_getE (o := partV x w e) (e := e') (by simpa using hc3) he'
      refine g_skip ?_
      refine ge_block ?_
      refine ge_then ?_
      refine g_region ?_
      refine gl_v rfl (o_move rfl) ?_
      refine gl_v rfl (o_addR ((i + 1 : Nat) : Int) (by rw [wr_i64 (by omega)]; omega) rfl rfl) ?_
      refine gl_v rfl (o_assign rfl) ?_
      refine gl_nil ?_
      refine ge_round (i + 1, e') ⟨by show i + 1 ≤ (formV k).2.length; omega, by show pfold ((formV k).2.drop (i + 1)) (ws.drop (i + 1)) e' = readV l; rw [← hI, fold_step hx hw, hsn]; rfl⟩ (by show (formV k).2.length - (i + 1) < (formV k).2.length - i; omega) (Keep.cons rfl (Keep.cons rfl (Keep.cons rfl (Keep.cons rfl (Keep.cons rfl (Keep.cons rfl (Keep.nil))))))) (tO)
    ·
     replace hc2 := hs_ hc2
     obtain rfl : i = (formV k).2.length := by omega
     have hyes : readV l = some e := by rw [← hI, List.drop_length]; rfl
     refine g_exit ?_
     refine ge_then_exit ?_
     refine ge_then_exit ?_
     refine ge_block_exit ?_
     refine ge_then ?_
     refine g_seq ?_
     refine g_region ?_
     first | refine gl_v rfl (o_loadSA rfl rfl rfl) ?_ | refine gl_v rfl (o_loadA rfl rfl rfl) ?_
     first | refine gl_u (o_storeSA rfl rfl rfl rfl (by simp; omega) (by simp)) ?_ | refine gl_u (o_storeA rfl rfl rfl rfl rfl) ?_
     refine gl_v rfl (o_assign rfl) ?_
     refine gl_nil ?_
     refine ge_then ?_
     refine g_ret ?_
     refine ge_block_ret ?_
     refine ge_then_ret ?_
     refine ge_then_ret ?_
     refine ge_block_ret ?_
     refine ge_then_ret ?_
     rw [hyes]
     refine ret2ct (.inl rfl) rfl rfl rfl rfl rfl [] ⟨rfl, rfl⟩ (tO)
 ·
  replace hc1 := hs_ hc1
  obtain rfl : k = 16 := by omega
  have hno := fits_none hsp hk
  refine g_exit ?_
  refine ge_then_exit ?_
  refine ge_then_exit ?_
  refine ge_block_exit ?_
  refine ge_then ?_
  refine g_seq ?_
  refine g_region ?_
  refine gl_v rfl (o_build rfl rfl) ?_
  first | refine gl_u (o_storeSA rfl rfl rfl rfl (by simp; omega) (by simp)) ?_ | refine gl_u (o_storeA rfl rfl rfl rfl rfl) ?_
  refine gl_v rfl (o_assign rfl) ?_
  refine gl_nil ?_
  refine ge_then ?_
  refine g_ret ?_
  rw [hno]
  refine ret2ct (.inl rfl) rfl rfl rfl rfl rfl [] ⟨rfl, rfl⟩ (tO)

end Go.Proofs.YtcglaiacohkaeaaDoor.L
