/-
  Names: what lex.Name and the reference's Name compute. Own work, printed in part by a program of its own.
-/
import Derived.Test.YtgmdlhlmffdbhaaDoorFacts
import Derived.Test.YtgmdlhlmffdbhaaDoorLexP
import Derived.Test.YtgmdlhlmffdbhaaDoorFns
set_option linter.unusedSimpArgs false
set_option linter.unusedVariables false
set_option linter.unusedSectionVars false
namespace Go.Proofs.YtgmdlhlmffdbhaaDoor.L
open Go.L Go.L.Lx


attribute [local irreducible] isLet isDig isIn isBlank isSign notNl
abbrev B8 (c : UInt8) : Value := .int .u8 c.toNat
theorem bool_eq {a b : Bool} (h : a = true ↔ b = true) : Value.bool a = Value.bool b := by rw [Bool.eq_iff_iff.2 h]
theorem name_take {c : UInt8} {r : By} (h : isLet c = true) : isName ((c :: r).take (spn isIn (c :: r))) = decide (spn isIn (c :: r) ≤ 16) := by
  have h1 := spn_take isIn (c :: r)
  have h2 : ((c :: r).take (spn isIn (c :: r))).length = spn isIn (c :: r) := by rw [List.length_take]; exact Nat.min_eq_left (spn_le _ _)
  obtain ⟨s, hs⟩ : ∃ s, (c :: r).take (spn isIn (c :: r)) = c :: s := ⟨r.take (spn isIn r), by rw [spn_cons (let_in h), List.take_succ_cons]⟩
  rw [hs] at h1 h2 ⊢
  have h3 : spn isIn (c :: s) = (c :: s).length := by have := spn_app (p := isIn) (c :: s) [] h1; rw [List.append_nil] at this; exact this
  unfold isName
  simp only [h, h3, Bool.true_and, h2, decide_true]
theorem isName_eq (c : UInt8) (r : By) : isName (c :: r) = (isLet c && decide (spn isIn (c :: r) = (c :: r).length) && decide ((c :: r).length ≤ 16)) := rfl
theorem name_long {l : By} (h : 16 < l.length) : isName l = false := by
  cases l with
  | nil => rfl
  | cons c r => rw [isName_eq, decide_eq_false (p := (c :: r).length ≤ 16) (by omega), Bool.and_false]
theorem name_nolet {c : UInt8} {r : By} (h : isLet c = false) : isName (c :: r) = false := by rw [isName_eq, h]; rfl
theorem name_all {c : UInt8} {r : By} (h : isLet c = true) (h2 : (c :: r).length ≤ 16) : isName (c :: r) = decide (((spn isIn (c :: r) : Nat) : Int) = ((c :: r).length : Nat)) := by
  rw [isName_eq, h, decide_eq_true h2, Bool.true_and, Bool.and_true, Bool.eq_iff_iff]
  simp only [decide_eq_true_eq]; omega
def isc (c : UInt8) : Nat := if isBlank c then 1 else if isLet c then 2 else if isDig c then 3 else if c.toNat = 95 then 4 else if isSign c then 5 else if c.toNat = 35 then 6 else 0
theorem isc_let (c : UInt8) : isc c = 2 ↔ isLet c = true := by
  unfold isc isBlank isLet isDig isSign; simp only [decide_eq_true_eq]; (repeat' split) <;> omega
theorem isc_in (c : UInt8) : isIn c = true ↔ isc c = 2 ∨ isc c = 3 ∨ isc c = 4 := by
  unfold isc isBlank isLet isDig isSign isIn; simp only [decide_eq_true_eq]; (repeat' split) <;> omega
theorem in_f {c : UInt8} (h : ¬ (isc c = 2 ∨ isc c = 3 ∨ isc c = 4)) : isIn c = false := by
  cases hi : isIn c with
  | false => rfl
  | true => exact absurd ((isc_in c).1 hi) h
theorem let_f {c : UInt8} (h : isc c ≠ 2) : isLet c = false := by
  cases hi : isLet c with
  | false => rfl
  | true => exact absurd ((isc_let c).2 hi) h

set_option maxRecDepth 8000 in
set_option maxHeartbeats 400000 in
theorem letter_spec (c : UInt8) : FnS Tryd.prog 48 [B8 c] [] (fun u Bs => u = .bool (isLet c) ∧ Bs = []) := by
  refine fn_body Tryd.func48 rfl rfl rfl ?_
  intro W0 R
  simp only [List.zipIdx_cons, List.zipIdx_nil, List.map_cons, List.map_nil, Nat.zero_add, Nat.reduceAdd, List.cons_append, List.nil_append]
  refine g_seq ?_
  refine g_region ?_
  refine gl_v rfl (o_assign rfl) ?_
  refine gl_nil ?_
  refine ge_then ?_
  refine g_seq ?_
  refine g_region ?_
  refine gl_v rfl (o_move rfl) ?_
  refine gl_v rfl (o_geq rfl rfl) ?_
  refine gl_v rfl (o_move rfl) ?_
  refine gl_g rfl rfl (fun hc1 => ?_) (fun hc1 => ?_) rfl
  ·
    have hc1' := hc1
    first | replace hc1' := of_decide_eq_true hc1' | replace hc1' := lt_f hc1' | replace hc1' := le_f hc1' | replace hc1' := dec_f hc1' | replace hc1' := nlt_t hc1' | replace hc1' := nle_t hc1' | replace hc1' := ndec_t hc1' | replace hc1' := ndec_f hc1' | replace hc1' := nn_t hc1' | replace hc1' := nn_f hc1' | skip
    refine gl_v rfl (o_move rfl) ?_
    refine gl_gT rfl rfl hc1 ?_
    refine gl_v rfl (o_leq rfl rfl) ?_
    refine gl_v rfl (o_pickT hc1 rfl rfl) ?_
    refine gl_v rfl (o_assign rfl) ?_
    refine gl_nil ?_
    refine ge_then ?_
    refine g_ret ?_
    refine ret1 (.inl rfl) rfl rfl _ (⟨by unfold isLet; refine bool_eq ?_; (try simp only [decide_eq_true_eq, Bool.false_eq_true, Bool.true_eq_false, Bool.not_eq_true', decide_eq_false_iff_not, Bool.and_eq_true, Bool.or_eq_true, true_iff, false_iff, iff_true, iff_false]); omega, rfl⟩) (To.sat (by repeat (first | exact .nil | exact .done .refl | (apply To.cons; · (repeat (first | exact .head | apply Sel.tail))) | exact .done (by repeat (first | exact .refl | apply Drop.skip)))))
  ·
    have hc1' := hc1
    first | replace hc1' := of_decide_eq_true hc1' | replace hc1' := lt_f hc1' | replace hc1' := le_f hc1' | replace hc1' := dec_f hc1' | replace hc1' := nlt_t hc1' | replace hc1' := nle_t hc1' | replace hc1' := ndec_t hc1' | replace hc1' := ndec_f hc1' | replace hc1' := nn_t hc1' | replace hc1' := nn_f hc1' | skip
    simp only [putO]
    refine gl_gF rfl rfl hc1 rfl ?_
    refine gl_v rfl (o_pickF hc1 rfl rfl) ?_
    refine gl_v rfl (o_assign rfl) ?_
    refine gl_nil ?_
    refine ge_then ?_
    refine g_ret ?_
    refine ret1 (.inl rfl) rfl rfl _ (⟨by unfold isLet; refine bool_eq ?_; (try simp only [decide_eq_true_eq, Bool.false_eq_true, Bool.true_eq_false, Bool.not_eq_true', decide_eq_false_iff_not, Bool.and_eq_true, Bool.or_eq_true, true_iff, false_iff, iff_true, iff_false]); omega, rfl⟩) (To.sat (by repeat (first | exact .nil | exact .done .refl | (apply To.cons; · (repeat (first | exact .head | apply Sel.tail))) | exact .done (by repeat (first | exact .refl | apply Drop.skip)))))

set_option maxRecDepth 8000 in
set_option maxHeartbeats 400000 in
theorem digit_spec (c : UInt8) : FnS Tryd.prog 64 [B8 c] [] (fun u Bs => u = .bool (isDig c) ∧ Bs = []) := by
  refine fn_body Tryd.func64 rfl rfl rfl ?_
  intro W0 R
  simp only [List.zipIdx_cons, List.zipIdx_nil, List.map_cons, List.map_nil, Nat.zero_add, Nat.reduceAdd, List.cons_append, List.nil_append]
  refine g_seq ?_
  refine g_region ?_
  refine gl_v rfl (o_assign rfl) ?_
  refine gl_nil ?_
  refine ge_then ?_
  refine g_seq ?_
  refine g_region ?_
  refine gl_v rfl (o_move rfl) ?_
  refine gl_v rfl (o_geq rfl rfl) ?_
  refine gl_v rfl (o_move rfl) ?_
  refine gl_g rfl rfl (fun hc1 => ?_) (fun hc1 => ?_) rfl
  ·
    have hc1' := hc1
    first | replace hc1' := of_decide_eq_true hc1' | replace hc1' := lt_f hc1' | replace hc1' := le_f hc1' | replace hc1' := dec_f hc1' | replace hc1' := nlt_t hc1' | replace hc1' := nle_t hc1' | replace hc1' := ndec_t hc1' | replace hc1' := ndec_f hc1' | replace hc1' := nn_t hc1' | replace hc1' := nn_f hc1' | skip
    refine gl_v rfl (o_move rfl) ?_
    refine gl_gT rfl rfl hc1 ?_
    refine gl_v rfl (o_leq rfl rfl) ?_
    refine gl_v rfl (o_pickT hc1 rfl rfl) ?_
    refine gl_v rfl (o_assign rfl) ?_
    refine gl_nil ?_
    refine ge_then ?_
    refine g_ret ?_
    refine ret1 (.inl rfl) rfl rfl _ (⟨by unfold isDig; refine bool_eq ?_; (try simp only [decide_eq_true_eq, Bool.false_eq_true, Bool.true_eq_false, Bool.not_eq_true', decide_eq_false_iff_not, Bool.and_eq_true, Bool.or_eq_true, true_iff, false_iff, iff_true, iff_false]); omega, rfl⟩) (To.sat (by repeat (first | exact .nil | exact .done .refl | (apply To.cons; · (repeat (first | exact .head | apply Sel.tail))) | exact .done (by repeat (first | exact .refl | apply Drop.skip)))))
  ·
    have hc1' := hc1
    first | replace hc1' := of_decide_eq_true hc1' | replace hc1' := lt_f hc1' | replace hc1' := le_f hc1' | replace hc1' := dec_f hc1' | replace hc1' := nlt_t hc1' | replace hc1' := nle_t hc1' | replace hc1' := ndec_t hc1' | replace hc1' := ndec_f hc1' | replace hc1' := nn_t hc1' | replace hc1' := nn_f hc1' | skip
    simp only [putO]
    refine gl_gF rfl rfl hc1 rfl ?_
    refine gl_v rfl (o_pickF hc1 rfl rfl) ?_
    refine gl_v rfl (o_assign rfl) ?_
    refine gl_nil ?_
    refine ge_then ?_
    refine g_ret ?_
    refine ret1 (.inl rfl) rfl rfl _ (⟨by unfold isDig; refine bool_eq ?_; (try simp only [decide_eq_true_eq, Bool.false_eq_true, Bool.true_eq_false, Bool.not_eq_true', decide_eq_false_iff_not, Bool.and_eq_true, Bool.or_eq_true, true_iff, false_iff, iff_true, iff_false]); omega, rfl⟩) (To.sat (by repeat (first | exact .nil | exact .done .refl | (apply To.cons; · (repeat (first | exact .head | apply Sel.tail))) | exact .done (by repeat (first | exact .refl | apply Drop.skip)))))

set_option maxRecDepth 8000 in
set_option maxHeartbeats 400000 in
theorem inner_spec (c : UInt8) : FnS Tryd.prog 50 [B8 c] [] (fun u Bs => u = .bool (isIn c) ∧ Bs = []) := by
  refine fn_body Tryd.func50 rfl rfl rfl ?_
  intro W0 R
  simp only [List.zipIdx_cons, List.zipIdx_nil, List.map_cons, List.map_nil, Nat.zero_add, Nat.reduceAdd, List.cons_append, List.nil_append]
  refine g_seq ?_
  refine g_region ?_
  refine gl_v rfl (o_assign rfl) ?_
  refine gl_nil ?_
  refine ge_then ?_
  refine g_seq ?_
  refine g_region ?_
  refine gl_v rfl (o_move rfl) ?_
  refine gl_c rfl (o_call rfl (letter_spec _) (by repeat (first | exact .nil | (apply Part.cons; · (repeat (first | exact .head | apply Sel.tail)))))) ?_
  rintro _ R ⟨_, ⟨rfl, rfl⟩, rfl⟩
  try simp only [List.cons_append, List.nil_append]
  refine gl_v rfl (o_move rfl) ?_
  refine gl_g rfl rfl (fun hc1 => ?_) (fun hc1 => ?_) rfl
  ·
    have hc1' := hc1
    first | replace hc1' := of_decide_eq_true hc1' | replace hc1' := lt_f hc1' | replace hc1' := le_f hc1' | replace hc1' := dec_f hc1' | replace hc1' := nlt_t hc1' | replace hc1' := nle_t hc1' | replace hc1' := ndec_t hc1' | replace hc1' := ndec_f hc1' | replace hc1' := nn_t hc1' | replace hc1' := nn_f hc1' | skip
    refine gl_v rfl (o_move rfl) ?_
    refine gl_gT rfl rfl hc1 ?_
    refine gl_c rfl (o_call rfl (digit_spec _) (by repeat (first | exact .nil | (apply Part.cons; · (repeat (first | exact .head | apply Sel.tail)))))) ?_
    rintro _ R ⟨_, ⟨rfl, rfl⟩, rfl⟩
    try simp only [List.cons_append, List.nil_append]
    refine gl_v rfl (o_pickF hc1 rfl rfl) ?_
    refine gl_v rfl (o_move rfl) ?_
    refine gl_g rfl rfl (fun hc2 => ?_) (fun hc2 => ?_) rfl
    ·
      have hc2' := hc2
      first | replace hc2' := of_decide_eq_true hc2' | replace hc2' := lt_f hc2' | replace hc2' := le_f hc2' | replace hc2' := dec_f hc2' | replace hc2' := nlt_t hc2' | replace hc2' := nle_t hc2' | replace hc2' := ndec_t hc2' | replace hc2' := ndec_f hc2' | replace hc2' := nn_t hc2' | replace hc2' := nn_f hc2' | skip
      refine gl_v rfl (o_move rfl) ?_
      refine gl_gT rfl rfl hc2 ?_
      refine gl_v rfl (o_eql rfl rfl) ?_
      refine gl_v rfl (o_pickF hc2 rfl rfl) ?_
      refine gl_v rfl (o_assign rfl) ?_
      refine gl_nil ?_
      refine ge_then ?_
      refine g_ret ?_
      refine ret1 (.inl rfl) rfl rfl _ (⟨by refine bool_eq ?_; unfold isIn; (try simp only [isLet, isDig, Bool.not_false, Bool.not_true] at *); (try simp only [decide_eq_true_eq, decide_eq_false_iff_not] at *); (try simp only [decide_eq_true_eq, Bool.false_eq_true, Bool.true_eq_false, Bool.not_eq_true', decide_eq_false_iff_not, Bool.and_eq_true, Bool.or_eq_true, true_iff, false_iff, iff_true, iff_false]); omega, rfl⟩) (To.sat (by repeat (first | exact .nil | exact .done .refl | (apply To.cons; · (repeat (first | exact .head | apply Sel.tail))) | exact .done (by repeat (first | exact .refl | apply Drop.skip)))))
    ·
      have hc2' := hc2
      first | replace hc2' := of_decide_eq_true hc2' | replace hc2' := lt_f hc2' | replace hc2' := le_f hc2' | replace hc2' := dec_f hc2' | replace hc2' := nlt_t hc2' | replace hc2' := nle_t hc2' | replace hc2' := ndec_t hc2' | replace hc2' := ndec_f hc2' | replace hc2' := nn_t hc2' | replace hc2' := nn_f hc2' | skip
      simp only [putO]
      refine gl_gF rfl rfl hc2 rfl ?_
      refine gl_v rfl (o_pickT hc2 rfl rfl) ?_
      refine gl_v rfl (o_assign rfl) ?_
      refine gl_nil ?_
      refine ge_then ?_
      refine g_ret ?_
      refine ret1 (.inl rfl) rfl rfl _ (⟨by refine bool_eq ?_; unfold isIn; (try simp only [isLet, isDig, Bool.not_false, Bool.not_true] at *); (try simp only [decide_eq_true_eq, decide_eq_false_iff_not] at *); (try simp only [decide_eq_true_eq, Bool.false_eq_true, Bool.true_eq_false, Bool.not_eq_true', decide_eq_false_iff_not, Bool.and_eq_true, Bool.or_eq_true, true_iff, false_iff, iff_true, iff_false]); omega, rfl⟩) (To.sat (by repeat (first | exact .nil | exact .done .refl | (apply To.cons; · (repeat (first | exact .head | apply Sel.tail))) | exact .done (by repeat (first | exact .refl | apply Drop.skip)))))
  ·
    have hc1' := hc1
    first | replace hc1' := of_decide_eq_true hc1' | replace hc1' := lt_f hc1' | replace hc1' := le_f hc1' | replace hc1' := dec_f hc1' | replace hc1' := nlt_t hc1' | replace hc1' := nle_t hc1' | replace hc1' := ndec_t hc1' | replace hc1' := ndec_f hc1' | replace hc1' := nn_t hc1' | replace hc1' := nn_f hc1' | skip
    simp only [putO]
    refine gl_gF rfl rfl hc1 rfl ?_
    refine gl_v rfl (o_pickT hc1 rfl rfl) ?_
    refine gl_v rfl (o_move rfl) ?_
    refine gl_gF rfl rfl rfl rfl ?_
    refine gl_gF rfl rfl rfl rfl ?_
    refine gl_v rfl (o_pickT rfl rfl rfl) ?_
    refine gl_v rfl (o_assign rfl) ?_
    refine gl_nil ?_
    refine ge_then ?_
    refine g_ret ?_
    refine ret1 (.inl rfl) rfl rfl _ (⟨by refine bool_eq ?_; unfold isIn; (try simp only [isLet, isDig, Bool.not_false, Bool.not_true] at *); (try simp only [decide_eq_true_eq, decide_eq_false_iff_not] at *); (try simp only [decide_eq_true_eq, Bool.false_eq_true, Bool.true_eq_false, Bool.not_eq_true', decide_eq_false_iff_not, Bool.and_eq_true, Bool.or_eq_true, true_iff, false_iff, iff_true, iff_false]); omega, rfl⟩) (To.sat (by repeat (first | exact .nil | exact .done .refl | (apply To.cons; · (repeat (first | exact .head | apply Sel.tail))) | exact .done (by repeat (first | exact .refl | apply Drop.skip)))))

set_option maxRecDepth 8000 in
set_option maxHeartbeats 400000 in
theorem span_spec (q : UInt8 → Bool) (F : FuncId) [TFunc Tryd.prog F] (hF : ∀ c, FnS Tryd.prog F [B8 c] [] (fun u Bs => u = .bool (q c) ∧ Bs = [])) (l : By) (hl : l.length ≤ 9223372036854775807) : FnS Tryd.prog 49 [S l, .func (.func F) #[] #[]] [] (fun u Bs => u = I64 (spn q l) ∧ Bs = []) := by
  refine fn_body Tryd.func49 rfl rfl rfl ?_
  intro W0 R
  simp only [List.zipIdx_cons, List.zipIdx_nil, List.map_cons, List.map_nil, Nat.zero_add, Nat.reduceAdd, List.cons_append, List.nil_append]
  refine g_seq ?_
  refine g_region ?_
  refine gl_v rfl (o_assign rfl) ?_
  refine gl_nil ?_
  refine ge_then ?_
  refine g_seq ?_
  refine g_region ?_
  refine gl_v rfl (o_assign rfl) ?_
  refine gl_nil ?_
  refine ge_then ?_
  refine g_seq ?_
  refine g_block ?_
  refine g_loop (ι := Nat) (fun x => x ≤ l.length ∧ spn q l = x + spn q (l.drop x)) (fun x => [(5, I64 x), (0, S l), (1, .func (.func F) #[] #[])]) (fun _ => R) (fun x => l.length - x) 0 (⟨Nat.zero_le _, by rw [List.drop_zero, Nat.zero_add]⟩) (Keep.cons rfl (Keep.cons rfl (Keep.cons rfl (Keep.nil)))) (To.sat (by repeat (first | exact .nil | exact .done .refl | (apply To.cons; · (repeat (first | exact .head | apply Sel.tail))) | exact .done (by repeat (first | exact .refl | apply Drop.skip))))) ?_
  rintro x ⟨hx, hs⟩
  replace hx : x ≤ l.length := hx
  replace hs : spn q l = x + spn q (l.drop x) := hs
  refine g_seq ?_
  refine g_seq ?_
  refine g_region ?_
  refine gl_v rfl (o_move rfl) ?_
  refine gl_v rfl (o_move rfl) ?_
  refine gl_v rfl (o_lens rfl) ?_
  refine gl_v rfl (o_lss rfl rfl) ?_
  refine gl_v rfl (o_move rfl) ?_
  refine gl_g rfl rfl (fun hc1 => ?_) (fun hc1 => ?_) rfl
  ·
    have hc1' := hc1
    first | replace hc1' := of_decide_eq_true hc1' | replace hc1' := lt_f hc1' | replace hc1' := le_f hc1' | replace hc1' := dec_f hc1' | replace hc1' := nlt_t hc1' | replace hc1' := nle_t hc1' | replace hc1' := ndec_t hc1' | replace hc1' := ndec_f hc1' | replace hc1' := nn_t hc1' | replace hc1' := nn_f hc1' | skip
    refine gl_v rfl (o_move rfl) ?_
    refine gl_gT rfl rfl hc1 ?_
    refine gl_v rfl (o_move rfl) ?_
    refine gl_gT rfl rfl hc1 ?_
    refine gl_v rfl (o_move rfl) ?_
    refine gl_gT rfl rfl hc1 ?_
    obtain ⟨c, hg⟩ : ∃ c, l[x]? = some c := ⟨_, List.getElem?_eq_getElem (show x < l.length by omega)⟩
    refine gl_v rfl (o_index_string rfl rfl (hg)) ?_
    refine gl_gT rfl rfl hc1 ?_
    refine gl_c rfl (o_callV rfl rfl (hF c) (by repeat (first | exact .nil | (apply Part.cons; · (repeat (first | exact .head | apply Sel.tail)))))) ?_
    rintro _ R ⟨_, ⟨rfl, rfl⟩, rfl⟩
    try simp only [List.cons_append, List.nil_append]
    refine gl_v rfl (o_pickT hc1 rfl rfl) ?_
    refine gl_nil ?_
    refine ge_then ?_
    refine g_cond rfl (fun hc2 => ?_) (fun hc2 => ?_)
    ·
      first | replace hc2 := of_decide_eq_true hc2 | replace hc2 := lt_f hc2 | replace hc2 := le_f hc2 | replace hc2 := dec_f hc2 | replace hc2 := nlt_t hc2 | replace hc2 := nle_t hc2 | replace hc2 := ndec_t hc2 | replace hc2 := ndec_f hc2 | replace hc2 := nn_t hc2 | replace hc2 := nn_f hc2 | skip
      refine g_skip ?_
      refine ge_then ?_
      refine g_block ?_
      refine g_region ?_
      refine gl_v rfl (o_move rfl) ?_
      refine gl_v rfl (o_addR (((x + 1 : Nat) : Int)) (by rw [wr_i64 (by omega)]; omega) rfl rfl) ?_
      refine gl_v rfl (o_assign rfl) ?_
      refine gl_nil ?_
      refine ge_block ?_
      have hq : q c = true := by first | exact hc1 | exact hc2 | exact hc3 | assumption
      refine ge_round (x + 1) ⟨show x + 1 ≤ l.length by omega, show spn q l = x + 1 + spn q (l.drop (x + 1)) by rw [hs, spn_step hg hq]; omega⟩ (show l.length - (x + 1) < l.length - x by omega) (Keep.cons rfl (Keep.cons rfl (Keep.cons rfl (Keep.nil)))) (To.sat (by repeat (first | exact .nil | exact .done .refl | (apply To.cons; · (repeat (first | exact .head | apply Sel.tail))) | exact .done (by repeat (first | exact .refl | apply Drop.skip)))))
    ·
      first | replace hc2 := of_decide_eq_true hc2 | replace hc2 := lt_f hc2 | replace hc2 := le_f hc2 | replace hc2 := dec_f hc2 | replace hc2 := nlt_t hc2 | replace hc2 := nle_t hc2 | replace hc2 := ndec_t hc2 | replace hc2 := ndec_f hc2 | replace hc2 := nn_t hc2 | replace hc2 := nn_f hc2 | skip
      refine g_exit ?_
      refine ge_then_exit ?_
      refine ge_then_exit ?_
      refine ge_block_exit ?_
      refine ge_then ?_
      refine g_seq ?_
      refine g_region ?_
      refine gl_v rfl (o_move rfl) ?_
      refine gl_v rfl (o_assign rfl) ?_
      refine gl_nil ?_
      refine ge_then ?_
      refine g_ret ?_
      refine ret1 (.inl rfl) rfl rfl _ (⟨by rw [hs]; first | (rw [spn_end (by omega)]; rfl) | (rw [spn_no hg (by first | exact hc1 | exact hc2 | exact hc3 | assumption)]; rfl), rfl⟩) (To.sat (by repeat (first | exact .nil | exact .done .refl | (apply To.cons; · (repeat (first | exact .head | apply Sel.tail))) | exact .done (by repeat (first | exact .refl | apply Drop.skip)))))
  ·
    have hc1' := hc1
    first | replace hc1' := of_decide_eq_true hc1' | replace hc1' := lt_f hc1' | replace hc1' := le_f hc1' | replace hc1' := dec_f hc1' | replace hc1' := nlt_t hc1' | replace hc1' := nle_t hc1' | replace hc1' := ndec_t hc1' | replace hc1' := ndec_f hc1' | replace hc1' := nn_t hc1' | replace hc1' := nn_f hc1' | skip
    simp only [putO]
    refine gl_gF rfl rfl hc1 rfl ?_
    refine gl_gF rfl rfl hc1 rfl ?_
    refine gl_gF rfl rfl hc1 rfl ?_
    refine gl_gF rfl rfl hc1 rfl ?_
    refine gl_v rfl (o_pickF hc1 rfl rfl) ?_
    refine gl_nil ?_
    refine ge_then ?_
    refine g_cond_false rfl ?_
    refine g_exit ?_
    refine ge_then_exit ?_
    refine ge_then_exit ?_
    refine ge_block_exit ?_
    refine ge_then ?_
    refine g_seq ?_
    refine g_region ?_
    refine gl_v rfl (o_move rfl) ?_
    refine gl_v rfl (o_assign rfl) ?_
    refine gl_nil ?_
    refine ge_then ?_
    refine g_ret ?_
    refine ret1 (.inl rfl) rfl rfl _ (⟨by rw [hs]; first | (rw [spn_end (by omega)]; rfl) | (rw [spn_no hg (by first | exact hc1 | exact hc2 | exact hc3 | assumption)]; rfl), rfl⟩) (To.sat (by repeat (first | exact .nil | exact .done .refl | (apply To.cons; · (repeat (first | exact .head | apply Sel.tail))) | exact .done (by repeat (first | exact .refl | apply Drop.skip)))))

set_option maxRecDepth 8000 in
set_option maxHeartbeats 400000 in
theorem Name_spec (l : By) (hl : l.length ≤ 9223372036854775807) : FnS Tryd.prog 30 [S l] [] (fun u Bs => u = .bool (isName l) ∧ Bs = []) := by
  refine fn_body Tryd.func30 rfl rfl rfl ?_
  intro W0 R
  simp only [List.zipIdx_cons, List.zipIdx_nil, List.map_cons, List.map_nil, Nat.zero_add, Nat.reduceAdd, List.cons_append, List.nil_append]
  refine g_seq ?_
  refine g_region ?_
  refine gl_v rfl (o_assign rfl) ?_
  refine gl_nil ?_
  refine ge_then ?_
  refine g_seq ?_
  refine g_region ?_
  refine gl_v rfl (o_move rfl) ?_
  refine gl_v rfl (o_neqs rfl rfl) ?_
  refine gl_v rfl (o_move rfl) ?_
  refine gl_g rfl rfl (fun hc1 => ?_) (fun hc1 => ?_) rfl
  ·
    have hc1' := hc1
    first | replace hc1' := of_decide_eq_true hc1' | replace hc1' := lt_f hc1' | replace hc1' := le_f hc1' | replace hc1' := dec_f hc1' | replace hc1' := nlt_t hc1' | replace hc1' := nle_t hc1' | replace hc1' := ndec_t hc1' | replace hc1' := ndec_f hc1' | replace hc1' := nn_t hc1' | replace hc1' := nn_f hc1' | skip
    refine gl_v rfl (o_move rfl) ?_
    refine gl_gT rfl rfl hc1 ?_
    refine gl_v rfl (o_lens rfl) ?_
    refine gl_gT rfl rfl hc1 ?_
    refine gl_v rfl (o_leq rfl rfl) ?_
    refine gl_v rfl (o_pickT hc1 rfl rfl) ?_
    refine gl_v rfl (o_move rfl) ?_
    refine gl_g rfl rfl (fun hc2 => ?_) (fun hc2 => ?_) rfl
    ·
      have hc2' := hc2
      first | replace hc2' := of_decide_eq_true hc2' | replace hc2' := lt_f hc2' | replace hc2' := le_f hc2' | replace hc2' := dec_f hc2' | replace hc2' := nlt_t hc2' | replace hc2' := nle_t hc2' | replace hc2' := ndec_t hc2' | replace hc2' := ndec_f hc2' | replace hc2' := nn_t hc2' | replace hc2' := nn_f hc2' | skip
      refine gl_v rfl (o_move rfl) ?_
      refine gl_gT rfl rfl hc2 ?_
      obtain ⟨c, r, rfl⟩ : ∃ c r, l = c :: r := by
        cases l with
        | nil => simp at *
        | cons c r => exact ⟨c, r, rfl⟩
      refine gl_v rfl (o_index_string rfl rfl (rfl)) ?_
      refine gl_gT rfl rfl hc2 ?_
      refine gl_c rfl (o_call rfl (letter_spec _) (by repeat (first | exact .nil | (apply Part.cons; · (repeat (first | exact .head | apply Sel.tail)))))) ?_
      rintro _ R ⟨_, ⟨rfl, rfl⟩, rfl⟩
      try simp only [List.cons_append, List.nil_append]
      refine gl_v rfl (o_pickT hc2 rfl rfl) ?_
      refine gl_v rfl (o_move rfl) ?_
      refine gl_g rfl rfl (fun hc3 => ?_) (fun hc3 => ?_) rfl
      ·
        have hc3' := hc3
        first | replace hc3' := of_decide_eq_true hc3' | replace hc3' := lt_f hc3' | replace hc3' := le_f hc3' | replace hc3' := dec_f hc3' | replace hc3' := nlt_t hc3' | replace hc3' := nle_t hc3' | replace hc3' := ndec_t hc3' | replace hc3' := ndec_f hc3' | replace hc3' := nn_t hc3' | replace hc3' := nn_f hc3' | skip
        refine gl_v rfl (o_move rfl) ?_
        refine gl_gT rfl rfl hc3 ?_
        refine gl_c rfl (o_call rfl (span_spec isIn 50 (fun c => inner_spec c) (_) (by simp only [List.length_cons, List.length_drop] at *; omega)) (by repeat (first | exact .nil | (apply Part.cons; · (repeat (first | exact .head | apply Sel.tail)))))) ?_
        rintro _ R ⟨_, ⟨rfl, rfl⟩, rfl⟩
        try simp only [List.cons_append, List.nil_append]
        refine gl_gT rfl rfl hc3 ?_
        refine gl_v rfl (o_move rfl) ?_
        refine gl_gT rfl rfl hc3 ?_
        refine gl_v rfl (o_lens rfl) ?_
        refine gl_gT rfl rfl hc3 ?_
        refine gl_v rfl (o_eql rfl rfl) ?_
        refine gl_v rfl (o_pickT hc3 rfl rfl) ?_
        refine gl_v rfl (o_assign rfl) ?_
        refine gl_nil ?_
        refine ge_then ?_
        refine g_ret ?_
        refine ret1 (.inl rfl) rfl rfl _ (⟨by first | rw [name_nolet (by assumption)] | rw [name_all (by assumption) (by simp only [List.length_cons] at *; omega)] | rw [name_long (by omega)] | (subst_vars; rfl), rfl⟩) (To.sat (by repeat (first | exact .nil | exact .done .refl | (apply To.cons; · (repeat (first | exact .head | apply Sel.tail))) | exact .done (by repeat (first | exact .refl | apply Drop.skip)))))
      ·
        have hc3' := hc3
        first | replace hc3' := of_decide_eq_true hc3' | replace hc3' := lt_f hc3' | replace hc3' := le_f hc3' | replace hc3' := dec_f hc3' | replace hc3' := nlt_t hc3' | replace hc3' := nle_t hc3' | replace hc3' := ndec_t hc3' | replace hc3' := ndec_f hc3' | replace hc3' := nn_t hc3' | replace hc3' := nn_f hc3' | skip
        simp only [putO]
        refine gl_gF rfl rfl hc3 rfl ?_
        refine gl_gF rfl rfl hc3 rfl ?_
        refine gl_gF rfl rfl hc3 rfl ?_
        refine gl_gF rfl rfl hc3 rfl ?_
        refine gl_v rfl (o_pickF hc3 rfl rfl) ?_
        refine gl_v rfl (o_assign rfl) ?_
        refine gl_nil ?_
        refine ge_then ?_
        refine g_ret ?_
        refine ret1 (.inl rfl) rfl rfl _ (⟨by first | rw [name_nolet (by assumption)] | rw [name_all (by assumption) (by simp only [List.length_cons] at *; omega)] | rw [name_long (by omega)] | (subst_vars; rfl), rfl⟩) (To.sat (by repeat (first | exact .nil | exact .done .refl | (apply To.cons; · (repeat (first | exact .head | apply Sel.tail))) | exact .done (by repeat (first | exact .refl | apply Drop.skip)))))
    ·
      have hc2' := hc2
      first | replace hc2' := of_decide_eq_true hc2' | replace hc2' := lt_f hc2' | replace hc2' := le_f hc2' | replace hc2' := dec_f hc2' | replace hc2' := nlt_t hc2' | replace hc2' := nle_t hc2' | replace hc2' := ndec_t hc2' | replace hc2' := ndec_f hc2' | replace hc2' := nn_t hc2' | replace hc2' := nn_f hc2' | skip
      simp only [putO]
      refine gl_gF rfl rfl hc2 rfl ?_
      refine gl_gF rfl rfl hc2 rfl ?_
      refine gl_v rfl (o_pickF hc2 rfl rfl) ?_
      refine gl_v rfl (o_move rfl) ?_
      refine gl_gF rfl rfl rfl rfl ?_
      refine gl_gF rfl rfl rfl rfl ?_
      refine gl_gF rfl rfl rfl rfl ?_
      refine gl_gF rfl rfl rfl rfl ?_
      refine gl_gF rfl rfl rfl rfl ?_
      refine gl_v rfl (o_pickF rfl rfl rfl) ?_
      refine gl_v rfl (o_assign rfl) ?_
      refine gl_nil ?_
      refine ge_then ?_
      refine g_ret ?_
      refine ret1 (.inl rfl) rfl rfl _ (⟨by first | rw [name_nolet (by assumption)] | rw [name_all (by assumption) (by simp only [List.length_cons] at *; omega)] | rw [name_long (by omega)] | (subst_vars; rfl), rfl⟩) (To.sat (by repeat (first | exact .nil | exact .done .refl | (apply To.cons; · (repeat (first | exact .head | apply Sel.tail))) | exact .done (by repeat (first | exact .refl | apply Drop.skip)))))
  ·
    have hc1' := hc1
    first | replace hc1' := of_decide_eq_true hc1' | replace hc1' := lt_f hc1' | replace hc1' := le_f hc1' | replace hc1' := dec_f hc1' | replace hc1' := nlt_t hc1' | replace hc1' := nle_t hc1' | replace hc1' := ndec_t hc1' | replace hc1' := ndec_f hc1' | replace hc1' := nn_t hc1' | replace hc1' := nn_f hc1' | skip
    simp only [putO]
    refine gl_gF rfl rfl hc1 rfl ?_
    refine gl_gF rfl rfl hc1 rfl ?_
    refine gl_v rfl (o_pickF hc1 rfl rfl) ?_
    refine gl_v rfl (o_move rfl) ?_
    refine gl_gF rfl rfl rfl rfl ?_
    refine gl_gF rfl rfl rfl rfl ?_
    refine gl_gF rfl rfl rfl rfl ?_
    refine gl_v rfl (o_pickF rfl rfl rfl) ?_
    refine gl_v rfl (o_move rfl) ?_
    refine gl_gF rfl rfl rfl rfl ?_
    refine gl_gF rfl rfl rfl rfl ?_
    refine gl_gF rfl rfl rfl rfl ?_
    refine gl_gF rfl rfl rfl rfl ?_
    refine gl_gF rfl rfl rfl rfl ?_
    refine gl_v rfl (o_pickF rfl rfl rfl) ?_
    refine gl_v rfl (o_assign rfl) ?_
    refine gl_nil ?_
    refine ge_then ?_
    refine g_ret ?_
    refine ret1 (.inl rfl) rfl rfl _ (⟨by first | rw [name_nolet (by assumption)] | rw [name_all (by assumption) (by simp only [List.length_cons] at *; omega)] | rw [name_long (by omega)] | (subst_vars; rfl), rfl⟩) (To.sat (by repeat (first | exact .nil | exact .done .refl | (apply To.cons; · (repeat (first | exact .head | apply Sel.tail))) | exact .done (by repeat (first | exact .refl | apply Drop.skip)))))

set_option maxRecDepth 8000 in
set_option maxHeartbeats 2000000 in
theorem Is_spec (c : UInt8) : FnS Tryd.prog 56 [B8 c] [] (fun u Bs => u = I64 (isc c) ∧ Bs = []) := by
  refine fn_body Tryd.func56 rfl rfl rfl ?_
  intro W0 R
  simp only [List.zipIdx_cons, List.zipIdx_nil, List.map_cons, List.map_nil, Nat.zero_add, Nat.reduceAdd, List.cons_append, List.nil_append]
  refine g_seq ?_
  refine g_region ?_
  refine gl_v rfl (o_assign rfl) ?_
  refine gl_nil ?_
  refine ge_then ?_
  refine g_seq ?_
  refine g_block ?_
  refine g_seq ?_
  refine g_region ?_
  refine gl_v rfl (o_move rfl) ?_
  refine gl_v rfl (o_eql rfl rfl) ?_
  refine gl_v rfl (o_move rfl) ?_
  refine gl_g rfl rfl (fun hc1 => ?_) (fun hc1 => ?_) rfl
  ·
    have hc1' := hc1
    first | replace hc1' := of_decide_eq_true hc1' | replace hc1' := lt_f hc1' | replace hc1' := le_f hc1' | replace hc1' := dec_f hc1' | replace hc1' := nlt_t hc1' | replace hc1' := nle_t hc1' | replace hc1' := ndec_t hc1' | replace hc1' := ndec_f hc1' | replace hc1' := nn_t hc1' | replace hc1' := nn_f hc1' | skip
    refine gl_v rfl (o_move rfl) ?_
    refine gl_gT rfl rfl hc1 ?_
    refine gl_v rfl (o_eql rfl rfl) ?_
    refine gl_v rfl (o_pickF hc1 rfl rfl) ?_
    refine gl_v rfl (o_move rfl) ?_
    refine gl_g rfl rfl (fun hc2 => ?_) (fun hc2 => ?_) rfl
    ·
      have hc2' := hc2
      first | replace hc2' := of_decide_eq_true hc2' | replace hc2' := lt_f hc2' | replace hc2' := le_f hc2' | replace hc2' := dec_f hc2' | replace hc2' := nlt_t hc2' | replace hc2' := nle_t hc2' | replace hc2' := ndec_t hc2' | replace hc2' := ndec_f hc2' | replace hc2' := nn_t hc2' | replace hc2' := nn_f hc2' | skip
      refine gl_v rfl (o_move rfl) ?_
      refine gl_gT rfl rfl hc2 ?_
      refine gl_v rfl (o_eql rfl rfl) ?_
      refine gl_v rfl (o_pickF hc2 rfl rfl) ?_
      refine gl_v rfl (o_move rfl) ?_
      refine gl_g rfl rfl (fun hc3 => ?_) (fun hc3 => ?_) rfl
      ·
        have hc3' := hc3
        first | replace hc3' := of_decide_eq_true hc3' | replace hc3' := lt_f hc3' | replace hc3' := le_f hc3' | replace hc3' := dec_f hc3' | replace hc3' := nlt_t hc3' | replace hc3' := nle_t hc3' | replace hc3' := ndec_t hc3' | replace hc3' := ndec_f hc3' | replace hc3' := nn_t hc3' | replace hc3' := nn_f hc3' | skip
        refine gl_v rfl (o_move rfl) ?_
        refine gl_gT rfl rfl hc3 ?_
        refine gl_v rfl (o_eql rfl rfl) ?_
        refine gl_v rfl (o_pickF hc3 rfl rfl) ?_
        refine gl_v rfl (o_assign rfl) ?_
        refine gl_nil ?_
        refine ge_then ?_
        refine g_cond rfl (fun hc4 => ?_) (fun hc4 => ?_)
        ·
          first | replace hc4 := of_decide_eq_true hc4 | replace hc4 := lt_f hc4 | replace hc4 := le_f hc4 | replace hc4 := dec_f hc4 | replace hc4 := nlt_t hc4 | replace hc4 := nle_t hc4 | replace hc4 := ndec_t hc4 | replace hc4 := ndec_f hc4 | replace hc4 := nn_t hc4 | replace hc4 := nn_f hc4 | skip
          refine g_seq ?_
          refine g_region ?_
          refine gl_v rfl (o_assign rfl) ?_
          refine gl_nil ?_
          refine ge_then ?_
          refine g_ret ?_
          refine ge_block_ret ?_
          refine ge_then_ret ?_
          refine ret1 (.inl rfl) rfl rfl _ (⟨by (try simp only [Bool.not_false, Bool.not_true, decide_eq_true_eq, decide_eq_false_iff_not] at *); refine congrArg (Value.int .i64) ?_; unfold isc isBlank isLet isDig isSign; simp only [decide_eq_true_eq]; (repeat' split) <;> first | rfl | omega, rfl⟩) (To.sat (by repeat (first | exact .nil | exact .done .refl | (apply To.cons; · (repeat (first | exact .head | apply Sel.tail))) | exact .done (by repeat (first | exact .refl | apply Drop.skip)))))
        ·
          first | replace hc4 := of_decide_eq_true hc4 | replace hc4 := lt_f hc4 | replace hc4 := le_f hc4 | replace hc4 := dec_f hc4 | replace hc4 := nlt_t hc4 | replace hc4 := nle_t hc4 | replace hc4 := ndec_t hc4 | replace hc4 := ndec_f hc4 | replace hc4 := nn_t hc4 | replace hc4 := nn_f hc4 | skip
          refine g_seq ?_
          refine g_region ?_
          refine gl_v rfl (o_move rfl) ?_
          refine gl_v rfl (o_geq rfl rfl) ?_
          refine gl_v rfl (o_move rfl) ?_
          refine gl_g rfl rfl (fun hc5 => ?_) (fun hc5 => ?_) rfl
          ·
            have hc5' := hc5
            first | replace hc5' := of_decide_eq_true hc5' | replace hc5' := lt_f hc5' | replace hc5' := le_f hc5' | replace hc5' := dec_f hc5' | replace hc5' := nlt_t hc5' | replace hc5' := nle_t hc5' | replace hc5' := ndec_t hc5' | replace hc5' := ndec_f hc5' | replace hc5' := nn_t hc5' | replace hc5' := nn_f hc5' | skip
            refine gl_v rfl (o_move rfl) ?_
            refine gl_gT rfl rfl hc5 ?_
            refine gl_v rfl (o_leq rfl rfl) ?_
            refine gl_v rfl (o_pickT hc5 rfl rfl) ?_
            refine gl_v rfl (o_assign rfl) ?_
            refine gl_nil ?_
            refine ge_then ?_
            refine g_cond rfl (fun hc6 => ?_) (fun hc6 => ?_)
            ·
              first | replace hc6 := of_decide_eq_true hc6 | replace hc6 := lt_f hc6 | replace hc6 := le_f hc6 | replace hc6 := dec_f hc6 | replace hc6 := nlt_t hc6 | replace hc6 := nle_t hc6 | replace hc6 := ndec_t hc6 | replace hc6 := ndec_f hc6 | replace hc6 := nn_t hc6 | replace hc6 := nn_f hc6 | skip
              refine g_seq ?_
              refine g_region ?_
              refine gl_v rfl (o_assign rfl) ?_
              refine gl_nil ?_
              refine ge_then ?_
              refine g_ret ?_
              refine ge_block_ret ?_
              refine ge_then_ret ?_
              refine ret1 (.inl rfl) rfl rfl _ (⟨by (try simp only [Bool.not_false, Bool.not_true, decide_eq_true_eq, decide_eq_false_iff_not] at *); refine congrArg (Value.int .i64) ?_; unfold isc isBlank isLet isDig isSign; simp only [decide_eq_true_eq]; (repeat' split) <;> first | rfl | omega, rfl⟩) (To.sat (by repeat (first | exact .nil | exact .done .refl | (apply To.cons; · (repeat (first | exact .head | apply Sel.tail))) | exact .done (by repeat (first | exact .refl | apply Drop.skip)))))
            ·
              first | replace hc6 := of_decide_eq_true hc6 | replace hc6 := lt_f hc6 | replace hc6 := le_f hc6 | replace hc6 := dec_f hc6 | replace hc6 := nlt_t hc6 | replace hc6 := nle_t hc6 | replace hc6 := ndec_t hc6 | replace hc6 := ndec_f hc6 | replace hc6 := nn_t hc6 | replace hc6 := nn_f hc6 | skip
              refine g_seq ?_
              refine g_region ?_
              refine gl_v rfl (o_move rfl) ?_
              refine gl_v rfl (o_geq rfl rfl) ?_
              refine gl_v rfl (o_move rfl) ?_
              refine gl_g rfl rfl (fun hc7 => ?_) (fun hc7 => ?_) rfl
              ·
                have hc7' := hc7
                first | replace hc7' := of_decide_eq_true hc7' | replace hc7' := lt_f hc7' | replace hc7' := le_f hc7' | replace hc7' := dec_f hc7' | replace hc7' := nlt_t hc7' | replace hc7' := nle_t hc7' | replace hc7' := ndec_t hc7' | replace hc7' := ndec_f hc7' | replace hc7' := nn_t hc7' | replace hc7' := nn_f hc7' | skip
                refine gl_v rfl (o_move rfl) ?_
                refine gl_gT rfl rfl hc7 ?_
                refine gl_v rfl (o_leq rfl rfl) ?_
                refine gl_v rfl (o_pickT hc7 rfl rfl) ?_
                refine gl_v rfl (o_assign rfl) ?_
                refine gl_nil ?_
                refine ge_then ?_
                refine g_cond rfl (fun hc8 => ?_) (fun hc8 => ?_)
                ·
                  first | replace hc8 := of_decide_eq_true hc8 | replace hc8 := lt_f hc8 | replace hc8 := le_f hc8 | replace hc8 := dec_f hc8 | replace hc8 := nlt_t hc8 | replace hc8 := nle_t hc8 | replace hc8 := ndec_t hc8 | replace hc8 := ndec_f hc8 | replace hc8 := nn_t hc8 | replace hc8 := nn_f hc8 | skip
                  refine g_seq ?_
                  refine g_region ?_
                  refine gl_v rfl (o_assign rfl) ?_
                  refine gl_nil ?_
                  refine ge_then ?_
                  refine g_ret ?_
                  refine ge_block_ret ?_
                  refine ge_then_ret ?_
                  refine ret1 (.inl rfl) rfl rfl _ (⟨by (try simp only [Bool.not_false, Bool.not_true, decide_eq_true_eq, decide_eq_false_iff_not] at *); refine congrArg (Value.int .i64) ?_; unfold isc isBlank isLet isDig isSign; simp only [decide_eq_true_eq]; (repeat' split) <;> first | rfl | omega, rfl⟩) (To.sat (by repeat (first | exact .nil | exact .done .refl | (apply To.cons; · (repeat (first | exact .head | apply Sel.tail))) | exact .done (by repeat (first | exact .refl | apply Drop.skip)))))
                ·
                  first | replace hc8 := of_decide_eq_true hc8 | replace hc8 := lt_f hc8 | replace hc8 := le_f hc8 | replace hc8 := dec_f hc8 | replace hc8 := nlt_t hc8 | replace hc8 := nle_t hc8 | replace hc8 := ndec_t hc8 | replace hc8 := ndec_f hc8 | replace hc8 := nn_t hc8 | replace hc8 := nn_f hc8 | skip
                  refine g_seq ?_
                  refine g_region ?_
                  refine gl_v rfl (o_move rfl) ?_
                  refine gl_v rfl (o_eql rfl rfl) ?_
                  refine gl_v rfl (o_assign rfl) ?_
                  refine gl_nil ?_
                  refine ge_then ?_
                  refine g_cond rfl (fun hc9 => ?_) (fun hc9 => ?_)
                  ·
                    first | replace hc9 := of_decide_eq_true hc9 | replace hc9 := lt_f hc9 | replace hc9 := le_f hc9 | replace hc9 := dec_f hc9 | replace hc9 := nlt_t hc9 | replace hc9 := nle_t hc9 | replace hc9 := ndec_t hc9 | replace hc9 := ndec_f hc9 | replace hc9 := nn_t hc9 | replace hc9 := nn_f hc9 | skip
                    refine g_seq ?_
                    refine g_region ?_
                    refine gl_v rfl (o_assign rfl) ?_
                    refine gl_nil ?_
                    refine ge_then ?_
                    refine g_ret ?_
                    refine ge_block_ret ?_
                    refine ge_then_ret ?_
                    refine ret1 (.inl rfl) rfl rfl _ (⟨by (try simp only [Bool.not_false, Bool.not_true, decide_eq_true_eq, decide_eq_false_iff_not] at *); refine congrArg (Value.int .i64) ?_; unfold isc isBlank isLet isDig isSign; simp only [decide_eq_true_eq]; (repeat' split) <;> first | rfl | omega, rfl⟩) (To.sat (by repeat (first | exact .nil | exact .done .refl | (apply To.cons; · (repeat (first | exact .head | apply Sel.tail))) | exact .done (by repeat (first | exact .refl | apply Drop.skip)))))
                  ·
                    first | replace hc9 := of_decide_eq_true hc9 | replace hc9 := lt_f hc9 | replace hc9 := le_f hc9 | replace hc9 := dec_f hc9 | replace hc9 := nlt_t hc9 | replace hc9 := nle_t hc9 | replace hc9 := ndec_t hc9 | replace hc9 := ndec_f hc9 | replace hc9 := nn_t hc9 | replace hc9 := nn_f hc9 | skip
                    refine g_seq ?_
                    refine g_region ?_
                    refine gl_v rfl (o_move rfl) ?_
                    refine gl_v rfl (o_eql rfl rfl) ?_
                    refine gl_v rfl (o_move rfl) ?_
                    refine gl_g rfl rfl (fun hc10 => ?_) (fun hc10 => ?_) rfl
                    ·
                      have hc10' := hc10
                      first | replace hc10' := of_decide_eq_true hc10' | replace hc10' := lt_f hc10' | replace hc10' := le_f hc10' | replace hc10' := dec_f hc10' | replace hc10' := nlt_t hc10' | replace hc10' := nle_t hc10' | replace hc10' := ndec_t hc10' | replace hc10' := ndec_f hc10' | replace hc10' := nn_t hc10' | replace hc10' := nn_f hc10' | skip
                      refine gl_v rfl (o_move rfl) ?_
                      refine gl_gT rfl rfl hc10 ?_
                      refine gl_v rfl (o_eql rfl rfl) ?_
                      refine gl_v rfl (o_pickF hc10 rfl rfl) ?_
                      refine gl_v rfl (o_move rfl) ?_
                      refine gl_g rfl rfl (fun hc11 => ?_) (fun hc11 => ?_) rfl
                      ·
                        have hc11' := hc11
                        first | replace hc11' := of_decide_eq_true hc11' | replace hc11' := lt_f hc11' | replace hc11' := le_f hc11' | replace hc11' := dec_f hc11' | replace hc11' := nlt_t hc11' | replace hc11' := nle_t hc11' | replace hc11' := ndec_t hc11' | replace hc11' := ndec_f hc11' | replace hc11' := nn_t hc11' | replace hc11' := nn_f hc11' | skip
                        refine gl_v rfl (o_move rfl) ?_
                        refine gl_gT rfl rfl hc11 ?_
                        refine gl_v rfl (o_eql rfl rfl) ?_
                        refine gl_v rfl (o_pickF hc11 rfl rfl) ?_
                        refine gl_v rfl (o_assign rfl) ?_
                        refine gl_nil ?_
                        refine ge_then ?_
                        refine g_cond rfl (fun hc12 => ?_) (fun hc12 => ?_)
                        ·
                          first | replace hc12 := of_decide_eq_true hc12 | replace hc12 := lt_f hc12 | replace hc12 := le_f hc12 | replace hc12 := dec_f hc12 | replace hc12 := nlt_t hc12 | replace hc12 := nle_t hc12 | replace hc12 := ndec_t hc12 | replace hc12 := ndec_f hc12 | replace hc12 := nn_t hc12 | replace hc12 := nn_f hc12 | skip
                          refine g_seq ?_
                          refine g_region ?_
                          refine gl_v rfl (o_assign rfl) ?_
                          refine gl_nil ?_
                          refine ge_then ?_
                          refine g_ret ?_
                          refine ge_block_ret ?_
                          refine ge_then_ret ?_
                          refine ret1 (.inl rfl) rfl rfl _ (⟨by (try simp only [Bool.not_false, Bool.not_true, decide_eq_true_eq, decide_eq_false_iff_not] at *); refine congrArg (Value.int .i64) ?_; unfold isc isBlank isLet isDig isSign; simp only [decide_eq_true_eq]; (repeat' split) <;> first | rfl | omega, rfl⟩) (To.sat (by repeat (first | exact .nil | exact .done .refl | (apply To.cons; · (repeat (first | exact .head | apply Sel.tail))) | exact .done (by repeat (first | exact .refl | apply Drop.skip)))))
                        ·
                          first | replace hc12 := of_decide_eq_true hc12 | replace hc12 := lt_f hc12 | replace hc12 := le_f hc12 | replace hc12 := dec_f hc12 | replace hc12 := nlt_t hc12 | replace hc12 := nle_t hc12 | replace hc12 := ndec_t hc12 | replace hc12 := ndec_f hc12 | replace hc12 := nn_t hc12 | replace hc12 := nn_f hc12 | skip
                          refine g_seq ?_
                          refine g_region ?_
                          refine gl_v rfl (o_move rfl) ?_
                          refine gl_v rfl (o_eql rfl rfl) ?_
                          refine gl_v rfl (o_assign rfl) ?_
                          refine gl_nil ?_
                          refine ge_then ?_
                          refine g_cond rfl (fun hc13 => ?_) (fun hc13 => ?_)
                          ·
                            first | replace hc13 := of_decide_eq_true hc13 | replace hc13 := lt_f hc13 | replace hc13 := le_f hc13 | replace hc13 := dec_f hc13 | replace hc13 := nlt_t hc13 | replace hc13 := nle_t hc13 | replace hc13 := ndec_t hc13 | replace hc13 := ndec_f hc13 | replace hc13 := nn_t hc13 | replace hc13 := nn_f hc13 | skip
                            refine g_seq ?_
                            refine g_region ?_
                            refine gl_v rfl (o_assign rfl) ?_
                            refine gl_nil ?_
                            refine ge_then ?_
                            refine g_ret ?_
                            refine ge_block_ret ?_
                            refine ge_then_ret ?_
                            refine ret1 (.inl rfl) rfl rfl _ (⟨by (try simp only [Bool.not_false, Bool.not_true, decide_eq_true_eq, decide_eq_false_iff_not] at *); refine congrArg (Value.int .i64) ?_; unfold isc isBlank isLet isDig isSign; simp only [decide_eq_true_eq]; (repeat' split) <;> first | rfl | omega, rfl⟩) (To.sat (by repeat (first | exact .nil | exact .done .refl | (apply To.cons; · (repeat (first | exact .head | apply Sel.tail))) | exact .done (by repeat (first | exact .refl | apply Drop.skip)))))
                          ·
                            first | replace hc13 := of_decide_eq_true hc13 | replace hc13 := lt_f hc13 | replace hc13 := le_f hc13 | replace hc13 := dec_f hc13 | replace hc13 := nlt_t hc13 | replace hc13 := nle_t hc13 | replace hc13 := ndec_t hc13 | replace hc13 := ndec_f hc13 | replace hc13 := nn_t hc13 | replace hc13 := nn_f hc13 | skip
                            refine g_skip ?_
                            refine ge_block ?_
                            refine ge_then ?_
                            refine g_seq ?_
                            refine g_region ?_
                            refine gl_v rfl (o_assign rfl) ?_
                            refine gl_nil ?_
                            refine ge_then ?_
                            refine g_ret ?_
                            refine ret1 (.inl rfl) rfl rfl _ (⟨by (try simp only [Bool.not_false, Bool.not_true, decide_eq_true_eq, decide_eq_false_iff_not] at *); refine congrArg (Value.int .i64) ?_; unfold isc isBlank isLet isDig isSign; simp only [decide_eq_true_eq]; (repeat' split) <;> first | rfl | omega, rfl⟩) (To.sat (by repeat (first | exact .nil | exact .done .refl | (apply To.cons; · (repeat (first | exact .head | apply Sel.tail))) | exact .done (by repeat (first | exact .refl | apply Drop.skip)))))
                      ·
                        have hc11' := hc11
                        first | replace hc11' := of_decide_eq_true hc11' | replace hc11' := lt_f hc11' | replace hc11' := le_f hc11' | replace hc11' := dec_f hc11' | replace hc11' := nlt_t hc11' | replace hc11' := nle_t hc11' | replace hc11' := ndec_t hc11' | replace hc11' := ndec_f hc11' | replace hc11' := nn_t hc11' | replace hc11' := nn_f hc11' | skip
                        simp only [putO]
                        refine gl_gF rfl rfl hc11 rfl ?_
                        refine gl_v rfl (o_pickT hc11 rfl rfl) ?_
                        refine gl_v rfl (o_assign rfl) ?_
                        refine gl_nil ?_
                        refine ge_then ?_
                        refine g_cond_true rfl ?_
                        refine g_seq ?_
                        refine g_region ?_
                        refine gl_v rfl (o_assign rfl) ?_
                        refine gl_nil ?_
                        refine ge_then ?_
                        refine g_ret ?_
                        refine ge_block_ret ?_
                        refine ge_then_ret ?_
                        refine ret1 (.inl rfl) rfl rfl _ (⟨by (try simp only [Bool.not_false, Bool.not_true, decide_eq_true_eq, decide_eq_false_iff_not] at *); refine congrArg (Value.int .i64) ?_; unfold isc isBlank isLet isDig isSign; simp only [decide_eq_true_eq]; (repeat' split) <;> first | rfl | omega, rfl⟩) (To.sat (by repeat (first | exact .nil | exact .done .refl | (apply To.cons; · (repeat (first | exact .head | apply Sel.tail))) | exact .done (by repeat (first | exact .refl | apply Drop.skip)))))
                    ·
                      have hc10' := hc10
                      first | replace hc10' := of_decide_eq_true hc10' | replace hc10' := lt_f hc10' | replace hc10' := le_f hc10' | replace hc10' := dec_f hc10' | replace hc10' := nlt_t hc10' | replace hc10' := nle_t hc10' | replace hc10' := ndec_t hc10' | replace hc10' := ndec_f hc10' | replace hc10' := nn_t hc10' | replace hc10' := nn_f hc10' | skip
                      simp only [putO]
                      refine gl_gF rfl rfl hc10 rfl ?_
                      refine gl_v rfl (o_pickT hc10 rfl rfl) ?_
                      refine gl_v rfl (o_move rfl) ?_
                      refine gl_gF rfl rfl rfl rfl ?_
                      refine gl_gF rfl rfl rfl rfl ?_
                      refine gl_v rfl (o_pickT rfl rfl rfl) ?_
                      refine gl_v rfl (o_assign rfl) ?_
                      refine gl_nil ?_
                      refine ge_then ?_
                      refine g_cond_true rfl ?_
                      refine g_seq ?_
                      refine g_region ?_
                      refine gl_v rfl (o_assign rfl) ?_
                      refine gl_nil ?_
                      refine ge_then ?_
                      refine g_ret ?_
                      refine ge_block_ret ?_
                      refine ge_then_ret ?_
                      refine ret1 (.inl rfl) rfl rfl _ (⟨by (try simp only [Bool.not_false, Bool.not_true, decide_eq_true_eq, decide_eq_false_iff_not] at *); refine congrArg (Value.int .i64) ?_; unfold isc isBlank isLet isDig isSign; simp only [decide_eq_true_eq]; (repeat' split) <;> first | rfl | omega, rfl⟩) (To.sat (by repeat (first | exact .nil | exact .done .refl | (apply To.cons; · (repeat (first | exact .head | apply Sel.tail))) | exact .done (by repeat (first | exact .refl | apply Drop.skip)))))
              ·
                have hc7' := hc7
                first | replace hc7' := of_decide_eq_true hc7' | replace hc7' := lt_f hc7' | replace hc7' := le_f hc7' | replace hc7' := dec_f hc7' | replace hc7' := nlt_t hc7' | replace hc7' := nle_t hc7' | replace hc7' := ndec_t hc7' | replace hc7' := ndec_f hc7' | replace hc7' := nn_t hc7' | replace hc7' := nn_f hc7' | skip
                simp only [putO]
                refine gl_gF rfl rfl hc7 rfl ?_
                refine gl_v rfl (o_pickF hc7 rfl rfl) ?_
                refine gl_v rfl (o_assign rfl) ?_
                refine gl_nil ?_
                refine ge_then ?_
                refine g_cond_false rfl ?_
                refine g_seq ?_
                refine g_region ?_
                refine gl_v rfl (o_move rfl) ?_
                refine gl_v rfl (o_eql rfl rfl) ?_
                refine gl_v rfl (o_assign rfl) ?_
                refine gl_nil ?_
                refine ge_then ?_
                refine g_cond rfl (fun hc14 => ?_) (fun hc14 => ?_)
                ·
                  first | replace hc14 := of_decide_eq_true hc14 | replace hc14 := lt_f hc14 | replace hc14 := le_f hc14 | replace hc14 := dec_f hc14 | replace hc14 := nlt_t hc14 | replace hc14 := nle_t hc14 | replace hc14 := ndec_t hc14 | replace hc14 := ndec_f hc14 | replace hc14 := nn_t hc14 | replace hc14 := nn_f hc14 | skip
                  refine g_seq ?_
                  refine g_region ?_
                  refine gl_v rfl (o_assign rfl) ?_
                  refine gl_nil ?_
                  refine ge_then ?_
                  refine g_ret ?_
                  refine ge_block_ret ?_
                  refine ge_then_ret ?_
                  refine ret1 (.inl rfl) rfl rfl _ (⟨by (try simp only [Bool.not_false, Bool.not_true, decide_eq_true_eq, decide_eq_false_iff_not] at *); refine congrArg (Value.int .i64) ?_; unfold isc isBlank isLet isDig isSign; simp only [decide_eq_true_eq]; (repeat' split) <;> first | rfl | omega, rfl⟩) (To.sat (by repeat (first | exact .nil | exact .done .refl | (apply To.cons; · (repeat (first | exact .head | apply Sel.tail))) | exact .done (by repeat (first | exact .refl | apply Drop.skip)))))
                ·
                  first | replace hc14 := of_decide_eq_true hc14 | replace hc14 := lt_f hc14 | replace hc14 := le_f hc14 | replace hc14 := dec_f hc14 | replace hc14 := nlt_t hc14 | replace hc14 := nle_t hc14 | replace hc14 := ndec_t hc14 | replace hc14 := ndec_f hc14 | replace hc14 := nn_t hc14 | replace hc14 := nn_f hc14 | skip
                  refine g_seq ?_
                  refine g_region ?_
                  refine gl_v rfl (o_move rfl) ?_
                  refine gl_v rfl (o_eql rfl rfl) ?_
                  refine gl_v rfl (o_move rfl) ?_
                  refine gl_g rfl rfl (fun hc15 => ?_) (fun hc15 => ?_) rfl
                  ·
                    have hc15' := hc15
                    first | replace hc15' := of_decide_eq_true hc15' | replace hc15' := lt_f hc15' | replace hc15' := le_f hc15' | replace hc15' := dec_f hc15' | replace hc15' := nlt_t hc15' | replace hc15' := nle_t hc15' | replace hc15' := ndec_t hc15' | replace hc15' := ndec_f hc15' | replace hc15' := nn_t hc15' | replace hc15' := nn_f hc15' | skip
                    refine gl_v rfl (o_move rfl) ?_
                    refine gl_gT rfl rfl hc15 ?_
                    refine gl_v rfl (o_eql rfl rfl) ?_
                    refine gl_v rfl (o_pickF hc15 rfl rfl) ?_
                    refine gl_v rfl (o_move rfl) ?_
                    refine gl_g rfl rfl (fun hc16 => ?_) (fun hc16 => ?_) rfl
                    ·
                      have hc16' := hc16
                      first | replace hc16' := of_decide_eq_true hc16' | replace hc16' := lt_f hc16' | replace hc16' := le_f hc16' | replace hc16' := dec_f hc16' | replace hc16' := nlt_t hc16' | replace hc16' := nle_t hc16' | replace hc16' := ndec_t hc16' | replace hc16' := ndec_f hc16' | replace hc16' := nn_t hc16' | replace hc16' := nn_f hc16' | skip
                      refine gl_v rfl (o_move rfl) ?_
                      refine gl_gT rfl rfl hc16 ?_
                      refine gl_v rfl (o_eql rfl rfl) ?_
                      refine gl_v rfl (o_pickF hc16 rfl rfl) ?_
                      refine gl_v rfl (o_assign rfl) ?_
                      refine gl_nil ?_
                      refine ge_then ?_
                      refine g_cond rfl (fun hc17 => ?_) (fun hc17 => ?_)
                      ·
                        first | replace hc17 := of_decide_eq_true hc17 | replace hc17 := lt_f hc17 | replace hc17 := le_f hc17 | replace hc17 := dec_f hc17 | replace hc17 := nlt_t hc17 | replace hc17 := nle_t hc17 | replace hc17 := ndec_t hc17 | replace hc17 := ndec_f hc17 | replace hc17 := nn_t hc17 | replace hc17 := nn_f hc17 | skip
                        refine g_seq ?_
                        refine g_region ?_
                        refine gl_v rfl (o_assign rfl) ?_
                        refine gl_nil ?_
                        refine ge_then ?_
                        refine g_ret ?_
                        refine ge_block_ret ?_
                        refine ge_then_ret ?_
                        refine ret1 (.inl rfl) rfl rfl _ (⟨by (try simp only [Bool.not_false, Bool.not_true, decide_eq_true_eq, decide_eq_false_iff_not] at *); refine congrArg (Value.int .i64) ?_; unfold isc isBlank isLet isDig isSign; simp only [decide_eq_true_eq]; (repeat' split) <;> first | rfl | omega, rfl⟩) (To.sat (by repeat (first | exact .nil | exact .done .refl | (apply To.cons; · (repeat (first | exact .head | apply Sel.tail))) | exact .done (by repeat (first | exact .refl | apply Drop.skip)))))
                      ·
                        first | replace hc17 := of_decide_eq_true hc17 | replace hc17 := lt_f hc17 | replace hc17 := le_f hc17 | replace hc17 := dec_f hc17 | replace hc17 := nlt_t hc17 | replace hc17 := nle_t hc17 | replace hc17 := ndec_t hc17 | replace hc17 := ndec_f hc17 | replace hc17 := nn_t hc17 | replace hc17 := nn_f hc17 | skip
                        refine g_seq ?_
                        refine g_region ?_
                        refine gl_v rfl (o_move rfl) ?_
                        refine gl_v rfl (o_eql rfl rfl) ?_
                        refine gl_v rfl (o_assign rfl) ?_
                        refine gl_nil ?_
                        refine ge_then ?_
                        refine g_cond rfl (fun hc18 => ?_) (fun hc18 => ?_)
                        ·
                          first | replace hc18 := of_decide_eq_true hc18 | replace hc18 := lt_f hc18 | replace hc18 := le_f hc18 | replace hc18 := dec_f hc18 | replace hc18 := nlt_t hc18 | replace hc18 := nle_t hc18 | replace hc18 := ndec_t hc18 | replace hc18 := ndec_f hc18 | replace hc18 := nn_t hc18 | replace hc18 := nn_f hc18 | skip
                          refine g_seq ?_
                          refine g_region ?_
                          refine gl_v rfl (o_assign rfl) ?_
                          refine gl_nil ?_
                          refine ge_then ?_
                          refine g_ret ?_
                          refine ge_block_ret ?_
                          refine ge_then_ret ?_
                          refine ret1 (.inl rfl) rfl rfl _ (⟨by (try simp only [Bool.not_false, Bool.not_true, decide_eq_true_eq, decide_eq_false_iff_not] at *); refine congrArg (Value.int .i64) ?_; unfold isc isBlank isLet isDig isSign; simp only [decide_eq_true_eq]; (repeat' split) <;> first | rfl | omega, rfl⟩) (To.sat (by repeat (first | exact .nil | exact .done .refl | (apply To.cons; · (repeat (first | exact .head | apply Sel.tail))) | exact .done (by repeat (first | exact .refl | apply Drop.skip)))))
                        ·
                          first | replace hc18 := of_decide_eq_true hc18 | replace hc18 := lt_f hc18 | replace hc18 := le_f hc18 | replace hc18 := dec_f hc18 | replace hc18 := nlt_t hc18 | replace hc18 := nle_t hc18 | replace hc18 := ndec_t hc18 | replace hc18 := ndec_f hc18 | replace hc18 := nn_t hc18 | replace hc18 := nn_f hc18 | skip
                          refine g_skip ?_
                          refine ge_block ?_
                          refine ge_then ?_
                          refine g_seq ?_
                          refine g_region ?_
                          refine gl_v rfl (o_assign rfl) ?_
                          refine gl_nil ?_
                          refine ge_then ?_
                          refine g_ret ?_
                          refine ret1 (.inl rfl) rfl rfl _ (⟨by (try simp only [Bool.not_false, Bool.not_true, decide_eq_true_eq, decide_eq_false_iff_not] at *); refine congrArg (Value.int .i64) ?_; unfold isc isBlank isLet isDig isSign; simp only [decide_eq_true_eq]; (repeat' split) <;> first | rfl | omega, rfl⟩) (To.sat (by repeat (first | exact .nil | exact .done .refl | (apply To.cons; · (repeat (first | exact .head | apply Sel.tail))) | exact .done (by repeat (first | exact .refl | apply Drop.skip)))))
                    ·
                      have hc16' := hc16
                      first | replace hc16' := of_decide_eq_true hc16' | replace hc16' := lt_f hc16' | replace hc16' := le_f hc16' | replace hc16' := dec_f hc16' | replace hc16' := nlt_t hc16' | replace hc16' := nle_t hc16' | replace hc16' := ndec_t hc16' | replace hc16' := ndec_f hc16' | replace hc16' := nn_t hc16' | replace hc16' := nn_f hc16' | skip
                      simp only [putO]
                      refine gl_gF rfl rfl hc16 rfl ?_
                      refine gl_v rfl (o_pickT hc16 rfl rfl) ?_
                      refine gl_v rfl (o_assign rfl) ?_
                      refine gl_nil ?_
                      refine ge_then ?_
                      refine g_cond_true rfl ?_
                      refine g_seq ?_
                      refine g_region ?_
                      refine gl_v rfl (o_assign rfl) ?_
                      refine gl_nil ?_
                      refine ge_then ?_
                      refine g_ret ?_
                      refine ge_block_ret ?_
                      refine ge_then_ret ?_
                      refine ret1 (.inl rfl) rfl rfl _ (⟨by (try simp only [Bool.not_false, Bool.not_true, decide_eq_true_eq, decide_eq_false_iff_not] at *); refine congrArg (Value.int .i64) ?_; unfold isc isBlank isLet isDig isSign; simp only [decide_eq_true_eq]; (repeat' split) <;> first | rfl | omega, rfl⟩) (To.sat (by repeat (first | exact .nil | exact .done .refl | (apply To.cons; · (repeat (first | exact .head | apply Sel.tail))) | exact .done (by repeat (first | exact .refl | apply Drop.skip)))))
                  ·
                    have hc15' := hc15
                    first | replace hc15' := of_decide_eq_true hc15' | replace hc15' := lt_f hc15' | replace hc15' := le_f hc15' | replace hc15' := dec_f hc15' | replace hc15' := nlt_t hc15' | replace hc15' := nle_t hc15' | replace hc15' := ndec_t hc15' | replace hc15' := ndec_f hc15' | replace hc15' := nn_t hc15' | replace hc15' := nn_f hc15' | skip
                    simp only [putO]
                    refine gl_gF rfl rfl hc15 rfl ?_
                    refine gl_v rfl (o_pickT hc15 rfl rfl) ?_
                    refine gl_v rfl (o_move rfl) ?_
                    refine gl_gF rfl rfl rfl rfl ?_
                    refine gl_gF rfl rfl rfl rfl ?_
                    refine gl_v rfl (o_pickT rfl rfl rfl) ?_
                    refine gl_v rfl (o_assign rfl) ?_
                    refine gl_nil ?_
                    refine ge_then ?_
                    refine g_cond_true rfl ?_
                    refine g_seq ?_
                    refine g_region ?_
                    refine gl_v rfl (o_assign rfl) ?_
                    refine gl_nil ?_
                    refine ge_then ?_
                    refine g_ret ?_
                    refine ge_block_ret ?_
                    refine ge_then_ret ?_
                    refine ret1 (.inl rfl) rfl rfl _ (⟨by (try simp only [Bool.not_false, Bool.not_true, decide_eq_true_eq, decide_eq_false_iff_not] at *); refine congrArg (Value.int .i64) ?_; unfold isc isBlank isLet isDig isSign; simp only [decide_eq_true_eq]; (repeat' split) <;> first | rfl | omega, rfl⟩) (To.sat (by repeat (first | exact .nil | exact .done .refl | (apply To.cons; · (repeat (first | exact .head | apply Sel.tail))) | exact .done (by repeat (first | exact .refl | apply Drop.skip)))))
          ·
            have hc5' := hc5
            first | replace hc5' := of_decide_eq_true hc5' | replace hc5' := lt_f hc5' | replace hc5' := le_f hc5' | replace hc5' := dec_f hc5' | replace hc5' := nlt_t hc5' | replace hc5' := nle_t hc5' | replace hc5' := ndec_t hc5' | replace hc5' := ndec_f hc5' | replace hc5' := nn_t hc5' | replace hc5' := nn_f hc5' | skip
            simp only [putO]
            refine gl_gF rfl rfl hc5 rfl ?_
            refine gl_v rfl (o_pickF hc5 rfl rfl) ?_
            refine gl_v rfl (o_assign rfl) ?_
            refine gl_nil ?_
            refine ge_then ?_
            refine g_cond_false rfl ?_
            refine g_seq ?_
            refine g_region ?_
            refine gl_v rfl (o_move rfl) ?_
            refine gl_v rfl (o_geq rfl rfl) ?_
            refine gl_v rfl (o_move rfl) ?_
            refine gl_g rfl rfl (fun hc19 => ?_) (fun hc19 => ?_) rfl
            ·
              have hc19' := hc19
              first | replace hc19' := of_decide_eq_true hc19' | replace hc19' := lt_f hc19' | replace hc19' := le_f hc19' | replace hc19' := dec_f hc19' | replace hc19' := nlt_t hc19' | replace hc19' := nle_t hc19' | replace hc19' := ndec_t hc19' | replace hc19' := ndec_f hc19' | replace hc19' := nn_t hc19' | replace hc19' := nn_f hc19' | skip
              refine gl_v rfl (o_move rfl) ?_
              refine gl_gT rfl rfl hc19 ?_
              refine gl_v rfl (o_leq rfl rfl) ?_
              refine gl_v rfl (o_pickT hc19 rfl rfl) ?_
              refine gl_v rfl (o_assign rfl) ?_
              refine gl_nil ?_
              refine ge_then ?_
              refine g_cond rfl (fun hc20 => ?_) (fun hc20 => ?_)
              ·
                first | replace hc20 := of_decide_eq_true hc20 | replace hc20 := lt_f hc20 | replace hc20 := le_f hc20 | replace hc20 := dec_f hc20 | replace hc20 := nlt_t hc20 | replace hc20 := nle_t hc20 | replace hc20 := ndec_t hc20 | replace hc20 := ndec_f hc20 | replace hc20 := nn_t hc20 | replace hc20 := nn_f hc20 | skip
                refine g_seq ?_
                refine g_region ?_
                refine gl_v rfl (o_assign rfl) ?_
                refine gl_nil ?_
                refine ge_then ?_
                refine g_ret ?_
                refine ge_block_ret ?_
                refine ge_then_ret ?_
                refine ret1 (.inl rfl) rfl rfl _ (⟨by (try simp only [Bool.not_false, Bool.not_true, decide_eq_true_eq, decide_eq_false_iff_not] at *); refine congrArg (Value.int .i64) ?_; unfold isc isBlank isLet isDig isSign; simp only [decide_eq_true_eq]; (repeat' split) <;> first | rfl | omega, rfl⟩) (To.sat (by repeat (first | exact .nil | exact .done .refl | (apply To.cons; · (repeat (first | exact .head | apply Sel.tail))) | exact .done (by repeat (first | exact .refl | apply Drop.skip)))))
              ·
                first | replace hc20 := of_decide_eq_true hc20 | replace hc20 := lt_f hc20 | replace hc20 := le_f hc20 | replace hc20 := dec_f hc20 | replace hc20 := nlt_t hc20 | replace hc20 := nle_t hc20 | replace hc20 := ndec_t hc20 | replace hc20 := ndec_f hc20 | replace hc20 := nn_t hc20 | replace hc20 := nn_f hc20 | skip
                refine g_seq ?_
                refine g_region ?_
                refine gl_v rfl (o_move rfl) ?_
                refine gl_v rfl (o_eql rfl rfl) ?_
                refine gl_v rfl (o_assign rfl) ?_
                refine gl_nil ?_
                refine ge_then ?_
                refine g_cond rfl (fun hc21 => ?_) (fun hc21 => ?_)
                ·
                  first | replace hc21 := of_decide_eq_true hc21 | replace hc21 := lt_f hc21 | replace hc21 := le_f hc21 | replace hc21 := dec_f hc21 | replace hc21 := nlt_t hc21 | replace hc21 := nle_t hc21 | replace hc21 := ndec_t hc21 | replace hc21 := ndec_f hc21 | replace hc21 := nn_t hc21 | replace hc21 := nn_f hc21 | skip
                  refine g_seq ?_
                  refine g_region ?_
                  refine gl_v rfl (o_assign rfl) ?_
                  refine gl_nil ?_
                  refine ge_then ?_
                  refine g_ret ?_
                  refine ge_block_ret ?_
                  refine ge_then_ret ?_
                  refine ret1 (.inl rfl) rfl rfl _ (⟨by (try simp only [Bool.not_false, Bool.not_true, decide_eq_true_eq, decide_eq_false_iff_not] at *); refine congrArg (Value.int .i64) ?_; unfold isc isBlank isLet isDig isSign; simp only [decide_eq_true_eq]; (repeat' split) <;> first | rfl | omega, rfl⟩) (To.sat (by repeat (first | exact .nil | exact .done .refl | (apply To.cons; · (repeat (first | exact .head | apply Sel.tail))) | exact .done (by repeat (first | exact .refl | apply Drop.skip)))))
                ·
                  first | replace hc21 := of_decide_eq_true hc21 | replace hc21 := lt_f hc21 | replace hc21 := le_f hc21 | replace hc21 := dec_f hc21 | replace hc21 := nlt_t hc21 | replace hc21 := nle_t hc21 | replace hc21 := ndec_t hc21 | replace hc21 := ndec_f hc21 | replace hc21 := nn_t hc21 | replace hc21 := nn_f hc21 | skip
                  refine g_seq ?_
                  refine g_region ?_
                  refine gl_v rfl (o_move rfl) ?_
                  refine gl_v rfl (o_eql rfl rfl) ?_
                  refine gl_v rfl (o_move rfl) ?_
                  refine gl_g rfl rfl (fun hc22 => ?_) (fun hc22 => ?_) rfl
                  ·
                    have hc22' := hc22
                    first | replace hc22' := of_decide_eq_true hc22' | replace hc22' := lt_f hc22' | replace hc22' := le_f hc22' | replace hc22' := dec_f hc22' | replace hc22' := nlt_t hc22' | replace hc22' := nle_t hc22' | replace hc22' := ndec_t hc22' | replace hc22' := ndec_f hc22' | replace hc22' := nn_t hc22' | replace hc22' := nn_f hc22' | skip
                    refine gl_v rfl (o_move rfl) ?_
                    refine gl_gT rfl rfl hc22 ?_
                    refine gl_v rfl (o_eql rfl rfl) ?_
                    refine gl_v rfl (o_pickF hc22 rfl rfl) ?_
                    refine gl_v rfl (o_move rfl) ?_
                    refine gl_g rfl rfl (fun hc23 => ?_) (fun hc23 => ?_) rfl
                    ·
                      have hc23' := hc23
                      first | replace hc23' := of_decide_eq_true hc23' | replace hc23' := lt_f hc23' | replace hc23' := le_f hc23' | replace hc23' := dec_f hc23' | replace hc23' := nlt_t hc23' | replace hc23' := nle_t hc23' | replace hc23' := ndec_t hc23' | replace hc23' := ndec_f hc23' | replace hc23' := nn_t hc23' | replace hc23' := nn_f hc23' | skip
                      refine gl_v rfl (o_move rfl) ?_
                      refine gl_gT rfl rfl hc23 ?_
                      refine gl_v rfl (o_eql rfl rfl) ?_
                      refine gl_v rfl (o_pickF hc23 rfl rfl) ?_
                      refine gl_v rfl (o_assign rfl) ?_
                      refine gl_nil ?_
                      refine ge_then ?_
                      refine g_cond rfl (fun hc24 => ?_) (fun hc24 => ?_)
                      ·
                        first | replace hc24 := of_decide_eq_true hc24 | replace hc24 := lt_f hc24 | replace hc24 := le_f hc24 | replace hc24 := dec_f hc24 | replace hc24 := nlt_t hc24 | replace hc24 := nle_t hc24 | replace hc24 := ndec_t hc24 | replace hc24 := ndec_f hc24 | replace hc24 := nn_t hc24 | replace hc24 := nn_f hc24 | skip
                        refine g_seq ?_
                        refine g_region ?_
                        refine gl_v rfl (o_assign rfl) ?_
                        refine gl_nil ?_
                        refine ge_then ?_
                        refine g_ret ?_
                        refine ge_block_ret ?_
                        refine ge_then_ret ?_
                        refine ret1 (.inl rfl) rfl rfl _ (⟨by (try simp only [Bool.not_false, Bool.not_true, decide_eq_true_eq, decide_eq_false_iff_not] at *); refine congrArg (Value.int .i64) ?_; unfold isc isBlank isLet isDig isSign; simp only [decide_eq_true_eq]; (repeat' split) <;> first | rfl | omega, rfl⟩) (To.sat (by repeat (first | exact .nil | exact .done .refl | (apply To.cons; · (repeat (first | exact .head | apply Sel.tail))) | exact .done (by repeat (first | exact .refl | apply Drop.skip)))))
                      ·
                        first | replace hc24 := of_decide_eq_true hc24 | replace hc24 := lt_f hc24 | replace hc24 := le_f hc24 | replace hc24 := dec_f hc24 | replace hc24 := nlt_t hc24 | replace hc24 := nle_t hc24 | replace hc24 := ndec_t hc24 | replace hc24 := ndec_f hc24 | replace hc24 := nn_t hc24 | replace hc24 := nn_f hc24 | skip
                        refine g_seq ?_
                        refine g_region ?_
                        refine gl_v rfl (o_move rfl) ?_
                        refine gl_v rfl (o_eql rfl rfl) ?_
                        refine gl_v rfl (o_assign rfl) ?_
                        refine gl_nil ?_
                        refine ge_then ?_
                        refine g_cond rfl (fun hc25 => ?_) (fun hc25 => ?_)
                        ·
                          first | replace hc25 := of_decide_eq_true hc25 | replace hc25 := lt_f hc25 | replace hc25 := le_f hc25 | replace hc25 := dec_f hc25 | replace hc25 := nlt_t hc25 | replace hc25 := nle_t hc25 | replace hc25 := ndec_t hc25 | replace hc25 := ndec_f hc25 | replace hc25 := nn_t hc25 | replace hc25 := nn_f hc25 | skip
                          refine g_seq ?_
                          refine g_region ?_
                          refine gl_v rfl (o_assign rfl) ?_
                          refine gl_nil ?_
                          refine ge_then ?_
                          refine g_ret ?_
                          refine ge_block_ret ?_
                          refine ge_then_ret ?_
                          refine ret1 (.inl rfl) rfl rfl _ (⟨by (try simp only [Bool.not_false, Bool.not_true, decide_eq_true_eq, decide_eq_false_iff_not] at *); refine congrArg (Value.int .i64) ?_; unfold isc isBlank isLet isDig isSign; simp only [decide_eq_true_eq]; (repeat' split) <;> first | rfl | omega, rfl⟩) (To.sat (by repeat (first | exact .nil | exact .done .refl | (apply To.cons; · (repeat (first | exact .head | apply Sel.tail))) | exact .done (by repeat (first | exact .refl | apply Drop.skip)))))
                        ·
                          first | replace hc25 := of_decide_eq_true hc25 | replace hc25 := lt_f hc25 | replace hc25 := le_f hc25 | replace hc25 := dec_f hc25 | replace hc25 := nlt_t hc25 | replace hc25 := nle_t hc25 | replace hc25 := ndec_t hc25 | replace hc25 := ndec_f hc25 | replace hc25 := nn_t hc25 | replace hc25 := nn_f hc25 | skip
                          refine g_skip ?_
                          refine ge_block ?_
                          refine ge_then ?_
                          refine g_seq ?_
                          refine g_region ?_
                          refine gl_v rfl (o_assign rfl) ?_
                          refine gl_nil ?_
                          refine ge_then ?_
                          refine g_ret ?_
                          refine ret1 (.inl rfl) rfl rfl _ (⟨by (try simp only [Bool.not_false, Bool.not_true, decide_eq_true_eq, decide_eq_false_iff_not] at *); refine congrArg (Value.int .i64) ?_; unfold isc isBlank isLet isDig isSign; simp only [decide_eq_true_eq]; (repeat' split) <;> first | rfl | omega, rfl⟩) (To.sat (by repeat (first | exact .nil | exact .done .refl | (apply To.cons; · (repeat (first | exact .head | apply Sel.tail))) | exact .done (by repeat (first | exact .refl | apply Drop.skip)))))
                    ·
                      have hc23' := hc23
                      first | replace hc23' := of_decide_eq_true hc23' | replace hc23' := lt_f hc23' | replace hc23' := le_f hc23' | replace hc23' := dec_f hc23' | replace hc23' := nlt_t hc23' | replace hc23' := nle_t hc23' | replace hc23' := ndec_t hc23' | replace hc23' := ndec_f hc23' | replace hc23' := nn_t hc23' | replace hc23' := nn_f hc23' | skip
                      simp only [putO]
                      refine gl_gF rfl rfl hc23 rfl ?_
                      refine gl_v rfl (o_pickT hc23 rfl rfl) ?_
                      refine gl_v rfl (o_assign rfl) ?_
                      refine gl_nil ?_
                      refine ge_then ?_
                      refine g_cond_true rfl ?_
                      refine g_seq ?_
                      refine g_region ?_
                      refine gl_v rfl (o_assign rfl) ?_
                      refine gl_nil ?_
                      refine ge_then ?_
                      refine g_ret ?_
                      refine ge_block_ret ?_
                      refine ge_then_ret ?_
                      refine ret1 (.inl rfl) rfl rfl _ (⟨by (try simp only [Bool.not_false, Bool.not_true, decide_eq_true_eq, decide_eq_false_iff_not] at *); refine congrArg (Value.int .i64) ?_; unfold isc isBlank isLet isDig isSign; simp only [decide_eq_true_eq]; (repeat' split) <;> first | rfl | omega, rfl⟩) (To.sat (by repeat (first | exact .nil | exact .done .refl | (apply To.cons; · (repeat (first | exact .head | apply Sel.tail))) | exact .done (by repeat (first | exact .refl | apply Drop.skip)))))
                  ·
                    have hc22' := hc22
                    first | replace hc22' := of_decide_eq_true hc22' | replace hc22' := lt_f hc22' | replace hc22' := le_f hc22' | replace hc22' := dec_f hc22' | replace hc22' := nlt_t hc22' | replace hc22' := nle_t hc22' | replace hc22' := ndec_t hc22' | replace hc22' := ndec_f hc22' | replace hc22' := nn_t hc22' | replace hc22' := nn_f hc22' | skip
                    simp only [putO]
                    refine gl_gF rfl rfl hc22 rfl ?_
                    refine gl_v rfl (o_pickT hc22 rfl rfl) ?_
                    refine gl_v rfl (o_move rfl) ?_
                    refine gl_gF rfl rfl rfl rfl ?_
                    refine gl_gF rfl rfl rfl rfl ?_
                    refine gl_v rfl (o_pickT rfl rfl rfl) ?_
                    refine gl_v rfl (o_assign rfl) ?_
                    refine gl_nil ?_
                    refine ge_then ?_
                    refine g_cond_true rfl ?_
                    refine g_seq ?_
                    refine g_region ?_
                    refine gl_v rfl (o_assign rfl) ?_
                    refine gl_nil ?_
                    refine ge_then ?_
                    refine g_ret ?_
                    refine ge_block_ret ?_
                    refine ge_then_ret ?_
                    refine ret1 (.inl rfl) rfl rfl _ (⟨by (try simp only [Bool.not_false, Bool.not_true, decide_eq_true_eq, decide_eq_false_iff_not] at *); refine congrArg (Value.int .i64) ?_; unfold isc isBlank isLet isDig isSign; simp only [decide_eq_true_eq]; (repeat' split) <;> first | rfl | omega, rfl⟩) (To.sat (by repeat (first | exact .nil | exact .done .refl | (apply To.cons; · (repeat (first | exact .head | apply Sel.tail))) | exact .done (by repeat (first | exact .refl | apply Drop.skip)))))
            ·
              have hc19' := hc19
              first | replace hc19' := of_decide_eq_true hc19' | replace hc19' := lt_f hc19' | replace hc19' := le_f hc19' | replace hc19' := dec_f hc19' | replace hc19' := nlt_t hc19' | replace hc19' := nle_t hc19' | replace hc19' := ndec_t hc19' | replace hc19' := ndec_f hc19' | replace hc19' := nn_t hc19' | replace hc19' := nn_f hc19' | skip
              simp only [putO]
              refine gl_gF rfl rfl hc19 rfl ?_
              refine gl_v rfl (o_pickF hc19 rfl rfl) ?_
              refine gl_v rfl (o_assign rfl) ?_
              refine gl_nil ?_
              refine ge_then ?_
              refine g_cond_false rfl ?_
              refine g_seq ?_
              refine g_region ?_
              refine gl_v rfl (o_move rfl) ?_
              refine gl_v rfl (o_eql rfl rfl) ?_
              refine gl_v rfl (o_assign rfl) ?_
              refine gl_nil ?_
              refine ge_then ?_
              refine g_cond rfl (fun hc26 => ?_) (fun hc26 => ?_)
              ·
                first | replace hc26 := of_decide_eq_true hc26 | replace hc26 := lt_f hc26 | replace hc26 := le_f hc26 | replace hc26 := dec_f hc26 | replace hc26 := nlt_t hc26 | replace hc26 := nle_t hc26 | replace hc26 := ndec_t hc26 | replace hc26 := ndec_f hc26 | replace hc26 := nn_t hc26 | replace hc26 := nn_f hc26 | skip
                refine g_seq ?_
                refine g_region ?_
                refine gl_v rfl (o_assign rfl) ?_
                refine gl_nil ?_
                refine ge_then ?_
                refine g_ret ?_
                refine ge_block_ret ?_
                refine ge_then_ret ?_
                refine ret1 (.inl rfl) rfl rfl _ (⟨by (try simp only [Bool.not_false, Bool.not_true, decide_eq_true_eq, decide_eq_false_iff_not] at *); refine congrArg (Value.int .i64) ?_; unfold isc isBlank isLet isDig isSign; simp only [decide_eq_true_eq]; (repeat' split) <;> first | rfl | omega, rfl⟩) (To.sat (by repeat (first | exact .nil | exact .done .refl | (apply To.cons; · (repeat (first | exact .head | apply Sel.tail))) | exact .done (by repeat (first | exact .refl | apply Drop.skip)))))
              ·
                first | replace hc26 := of_decide_eq_true hc26 | replace hc26 := lt_f hc26 | replace hc26 := le_f hc26 | replace hc26 := dec_f hc26 | replace hc26 := nlt_t hc26 | replace hc26 := nle_t hc26 | replace hc26 := ndec_t hc26 | replace hc26 := ndec_f hc26 | replace hc26 := nn_t hc26 | replace hc26 := nn_f hc26 | skip
                refine g_seq ?_
                refine g_region ?_
                refine gl_v rfl (o_move rfl) ?_
                refine gl_v rfl (o_eql rfl rfl) ?_
                refine gl_v rfl (o_move rfl) ?_
                refine gl_g rfl rfl (fun hc27 => ?_) (fun hc27 => ?_) rfl
                ·
                  have hc27' := hc27
                  first | replace hc27' := of_decide_eq_true hc27' | replace hc27' := lt_f hc27' | replace hc27' := le_f hc27' | replace hc27' := dec_f hc27' | replace hc27' := nlt_t hc27' | replace hc27' := nle_t hc27' | replace hc27' := ndec_t hc27' | replace hc27' := ndec_f hc27' | replace hc27' := nn_t hc27' | replace hc27' := nn_f hc27' | skip
                  refine gl_v rfl (o_move rfl) ?_
                  refine gl_gT rfl rfl hc27 ?_
                  refine gl_v rfl (o_eql rfl rfl) ?_
                  refine gl_v rfl (o_pickF hc27 rfl rfl) ?_
                  refine gl_v rfl (o_move rfl) ?_
                  refine gl_g rfl rfl (fun hc28 => ?_) (fun hc28 => ?_) rfl
                  ·
                    have hc28' := hc28
                    first | replace hc28' := of_decide_eq_true hc28' | replace hc28' := lt_f hc28' | replace hc28' := le_f hc28' | replace hc28' := dec_f hc28' | replace hc28' := nlt_t hc28' | replace hc28' := nle_t hc28' | replace hc28' := ndec_t hc28' | replace hc28' := ndec_f hc28' | replace hc28' := nn_t hc28' | replace hc28' := nn_f hc28' | skip
                    refine gl_v rfl (o_move rfl) ?_
                    refine gl_gT rfl rfl hc28 ?_
                    refine gl_v rfl (o_eql rfl rfl) ?_
                    refine gl_v rfl (o_pickF hc28 rfl rfl) ?_
                    refine gl_v rfl (o_assign rfl) ?_
                    refine gl_nil ?_
                    refine ge_then ?_
                    refine g_cond rfl (fun hc29 => ?_) (fun hc29 => ?_)
                    ·
                      first | replace hc29 := of_decide_eq_true hc29 | replace hc29 := lt_f hc29 | replace hc29 := le_f hc29 | replace hc29 := dec_f hc29 | replace hc29 := nlt_t hc29 | replace hc29 := nle_t hc29 | replace hc29 := ndec_t hc29 | replace hc29 := ndec_f hc29 | replace hc29 := nn_t hc29 | replace hc29 := nn_f hc29 | skip
                      refine g_seq ?_
                      refine g_region ?_
                      refine gl_v rfl (o_assign rfl) ?_
                      refine gl_nil ?_
                      refine ge_then ?_
                      refine g_ret ?_
                      refine ge_block_ret ?_
                      refine ge_then_ret ?_
                      refine ret1 (.inl rfl) rfl rfl _ (⟨by (try simp only [Bool.not_false, Bool.not_true, decide_eq_true_eq, decide_eq_false_iff_not] at *); refine congrArg (Value.int .i64) ?_; unfold isc isBlank isLet isDig isSign; simp only [decide_eq_true_eq]; (repeat' split) <;> first | rfl | omega, rfl⟩) (To.sat (by repeat (first | exact .nil | exact .done .refl | (apply To.cons; · (repeat (first | exact .head | apply Sel.tail))) | exact .done (by repeat (first | exact .refl | apply Drop.skip)))))
                    ·
                      first | replace hc29 := of_decide_eq_true hc29 | replace hc29 := lt_f hc29 | replace hc29 := le_f hc29 | replace hc29 := dec_f hc29 | replace hc29 := nlt_t hc29 | replace hc29 := nle_t hc29 | replace hc29 := ndec_t hc29 | replace hc29 := ndec_f hc29 | replace hc29 := nn_t hc29 | replace hc29 := nn_f hc29 | skip
                      refine g_seq ?_
                      refine g_region ?_
                      refine gl_v rfl (o_move rfl) ?_
                      refine gl_v rfl (o_eql rfl rfl) ?_
                      refine gl_v rfl (o_assign rfl) ?_
                      refine gl_nil ?_
                      refine ge_then ?_
                      refine g_cond rfl (fun hc30 => ?_) (fun hc30 => ?_)
                      ·
                        first | replace hc30 := of_decide_eq_true hc30 | replace hc30 := lt_f hc30 | replace hc30 := le_f hc30 | replace hc30 := dec_f hc30 | replace hc30 := nlt_t hc30 | replace hc30 := nle_t hc30 | replace hc30 := ndec_t hc30 | replace hc30 := ndec_f hc30 | replace hc30 := nn_t hc30 | replace hc30 := nn_f hc30 | skip
                        refine g_seq ?_
                        refine g_region ?_
                        refine gl_v rfl (o_assign rfl) ?_
                        refine gl_nil ?_
                        refine ge_then ?_
                        refine g_ret ?_
                        refine ge_block_ret ?_
                        refine ge_then_ret ?_
                        refine ret1 (.inl rfl) rfl rfl _ (⟨by (try simp only [Bool.not_false, Bool.not_true, decide_eq_true_eq, decide_eq_false_iff_not] at *); refine congrArg (Value.int .i64) ?_; unfold isc isBlank isLet isDig isSign; simp only [decide_eq_true_eq]; (repeat' split) <;> first | rfl | omega, rfl⟩) (To.sat (by repeat (first | exact .nil | exact .done .refl | (apply To.cons; · (repeat (first | exact .head | apply Sel.tail))) | exact .done (by repeat (first | exact .refl | apply Drop.skip)))))
                      ·
                        first | replace hc30 := of_decide_eq_true hc30 | replace hc30 := lt_f hc30 | replace hc30 := le_f hc30 | replace hc30 := dec_f hc30 | replace hc30 := nlt_t hc30 | replace hc30 := nle_t hc30 | replace hc30 := ndec_t hc30 | replace hc30 := ndec_f hc30 | replace hc30 := nn_t hc30 | replace hc30 := nn_f hc30 | skip
                        refine g_skip ?_
                        refine ge_block ?_
                        refine ge_then ?_
                        refine g_seq ?_
                        refine g_region ?_
                        refine gl_v rfl (o_assign rfl) ?_
                        refine gl_nil ?_
                        refine ge_then ?_
                        refine g_ret ?_
                        refine ret1 (.inl rfl) rfl rfl _ (⟨by (try simp only [Bool.not_false, Bool.not_true, decide_eq_true_eq, decide_eq_false_iff_not] at *); refine congrArg (Value.int .i64) ?_; unfold isc isBlank isLet isDig isSign; simp only [decide_eq_true_eq]; (repeat' split) <;> first | rfl | omega, rfl⟩) (To.sat (by repeat (first | exact .nil | exact .done .refl | (apply To.cons; · (repeat (first | exact .head | apply Sel.tail))) | exact .done (by repeat (first | exact .refl | apply Drop.skip)))))
                  ·
                    have hc28' := hc28
                    first | replace hc28' := of_decide_eq_true hc28' | replace hc28' := lt_f hc28' | replace hc28' := le_f hc28' | replace hc28' := dec_f hc28' | replace hc28' := nlt_t hc28' | replace hc28' := nle_t hc28' | replace hc28' := ndec_t hc28' | replace hc28' := ndec_f hc28' | replace hc28' := nn_t hc28' | replace hc28' := nn_f hc28' | skip
                    simp only [putO]
                    refine gl_gF rfl rfl hc28 rfl ?_
                    refine gl_v rfl (o_pickT hc28 rfl rfl) ?_
                    refine gl_v rfl (o_assign rfl) ?_
                    refine gl_nil ?_
                    refine ge_then ?_
                    refine g_cond_true rfl ?_
                    refine g_seq ?_
                    refine g_region ?_
                    refine gl_v rfl (o_assign rfl) ?_
                    refine gl_nil ?_
                    refine ge_then ?_
                    refine g_ret ?_
                    refine ge_block_ret ?_
                    refine ge_then_ret ?_
                    refine ret1 (.inl rfl) rfl rfl _ (⟨by (try simp only [Bool.not_false, Bool.not_true, decide_eq_true_eq, decide_eq_false_iff_not] at *); refine congrArg (Value.int .i64) ?_; unfold isc isBlank isLet isDig isSign; simp only [decide_eq_true_eq]; (repeat' split) <;> first | rfl | omega, rfl⟩) (To.sat (by repeat (first | exact .nil | exact .done .refl | (apply To.cons; · (repeat (first | exact .head | apply Sel.tail))) | exact .done (by repeat (first | exact .refl | apply Drop.skip)))))
                ·
                  have hc27' := hc27
                  first | replace hc27' := of_decide_eq_true hc27' | replace hc27' := lt_f hc27' | replace hc27' := le_f hc27' | replace hc27' := dec_f hc27' | replace hc27' := nlt_t hc27' | replace hc27' := nle_t hc27' | replace hc27' := ndec_t hc27' | replace hc27' := ndec_f hc27' | replace hc27' := nn_t hc27' | replace hc27' := nn_f hc27' | skip
                  simp only [putO]
                  refine gl_gF rfl rfl hc27 rfl ?_
                  refine gl_v rfl (o_pickT hc27 rfl rfl) ?_
                  refine gl_v rfl (o_move rfl) ?_
                  refine gl_gF rfl rfl rfl rfl ?_
                  refine gl_gF rfl rfl rfl rfl ?_
                  refine gl_v rfl (o_pickT rfl rfl rfl) ?_
                  refine gl_v rfl (o_assign rfl) ?_
                  refine gl_nil ?_
                  refine ge_then ?_
                  refine g_cond_true rfl ?_
                  refine g_seq ?_
                  refine g_region ?_
                  refine gl_v rfl (o_assign rfl) ?_
                  refine gl_nil ?_
                  refine ge_then ?_
                  refine g_ret ?_
                  refine ge_block_ret ?_
                  refine ge_then_ret ?_
                  refine ret1 (.inl rfl) rfl rfl _ (⟨by (try simp only [Bool.not_false, Bool.not_true, decide_eq_true_eq, decide_eq_false_iff_not] at *); refine congrArg (Value.int .i64) ?_; unfold isc isBlank isLet isDig isSign; simp only [decide_eq_true_eq]; (repeat' split) <;> first | rfl | omega, rfl⟩) (To.sat (by repeat (first | exact .nil | exact .done .refl | (apply To.cons; · (repeat (first | exact .head | apply Sel.tail))) | exact .done (by repeat (first | exact .refl | apply Drop.skip)))))
      ·
        have hc3' := hc3
        first | replace hc3' := of_decide_eq_true hc3' | replace hc3' := lt_f hc3' | replace hc3' := le_f hc3' | replace hc3' := dec_f hc3' | replace hc3' := nlt_t hc3' | replace hc3' := nle_t hc3' | replace hc3' := ndec_t hc3' | replace hc3' := ndec_f hc3' | replace hc3' := nn_t hc3' | replace hc3' := nn_f hc3' | skip
        simp only [putO]
        refine gl_gF rfl rfl hc3 rfl ?_
        refine gl_v rfl (o_pickT hc3 rfl rfl) ?_
        refine gl_v rfl (o_assign rfl) ?_
        refine gl_nil ?_
        refine ge_then ?_
        refine g_cond_true rfl ?_
        refine g_seq ?_
        refine g_region ?_
        refine gl_v rfl (o_assign rfl) ?_
        refine gl_nil ?_
        refine ge_then ?_
        refine g_ret ?_
        refine ge_block_ret ?_
        refine ge_then_ret ?_
        refine ret1 (.inl rfl) rfl rfl _ (⟨by (try simp only [Bool.not_false, Bool.not_true, decide_eq_true_eq, decide_eq_false_iff_not] at *); refine congrArg (Value.int .i64) ?_; unfold isc isBlank isLet isDig isSign; simp only [decide_eq_true_eq]; (repeat' split) <;> first | rfl | omega, rfl⟩) (To.sat (by repeat (first | exact .nil | exact .done .refl | (apply To.cons; · (repeat (first | exact .head | apply Sel.tail))) | exact .done (by repeat (first | exact .refl | apply Drop.skip)))))
    ·
      have hc2' := hc2
      first | replace hc2' := of_decide_eq_true hc2' | replace hc2' := lt_f hc2' | replace hc2' := le_f hc2' | replace hc2' := dec_f hc2' | replace hc2' := nlt_t hc2' | replace hc2' := nle_t hc2' | replace hc2' := ndec_t hc2' | replace hc2' := ndec_f hc2' | replace hc2' := nn_t hc2' | replace hc2' := nn_f hc2' | skip
      simp only [putO]
      refine gl_gF rfl rfl hc2 rfl ?_
      refine gl_v rfl (o_pickT hc2 rfl rfl) ?_
      refine gl_v rfl (o_move rfl) ?_
      refine gl_gF rfl rfl rfl rfl ?_
      refine gl_gF rfl rfl rfl rfl ?_
      refine gl_v rfl (o_pickT rfl rfl rfl) ?_
      refine gl_v rfl (o_assign rfl) ?_
      refine gl_nil ?_
      refine ge_then ?_
      refine g_cond_true rfl ?_
      refine g_seq ?_
      refine g_region ?_
      refine gl_v rfl (o_assign rfl) ?_
      refine gl_nil ?_
      refine ge_then ?_
      refine g_ret ?_
      refine ge_block_ret ?_
      refine ge_then_ret ?_
      refine ret1 (.inl rfl) rfl rfl _ (⟨by (try simp only [Bool.not_false, Bool.not_true, decide_eq_true_eq, decide_eq_false_iff_not] at *); refine congrArg (Value.int .i64) ?_; unfold isc isBlank isLet isDig isSign; simp only [decide_eq_true_eq]; (repeat' split) <;> first | rfl | omega, rfl⟩) (To.sat (by repeat (first | exact .nil | exact .done .refl | (apply To.cons; · (repeat (first | exact .head | apply Sel.tail))) | exact .done (by repeat (first | exact .refl | apply Drop.skip)))))
  ·
    have hc1' := hc1
    first | replace hc1' := of_decide_eq_true hc1' | replace hc1' := lt_f hc1' | replace hc1' := le_f hc1' | replace hc1' := dec_f hc1' | replace hc1' := nlt_t hc1' | replace hc1' := nle_t hc1' | replace hc1' := ndec_t hc1' | replace hc1' := ndec_f hc1' | replace hc1' := nn_t hc1' | replace hc1' := nn_f hc1' | skip
    simp only [putO]
    refine gl_gF rfl rfl hc1 rfl ?_
    refine gl_v rfl (o_pickT hc1 rfl rfl) ?_
    refine gl_v rfl (o_move rfl) ?_
    refine gl_gF rfl rfl rfl rfl ?_
    refine gl_gF rfl rfl rfl rfl ?_
    refine gl_v rfl (o_pickT rfl rfl rfl) ?_
    refine gl_v rfl (o_move rfl) ?_
    refine gl_gF rfl rfl rfl rfl ?_
    refine gl_gF rfl rfl rfl rfl ?_
    refine gl_v rfl (o_pickT rfl rfl rfl) ?_
    refine gl_v rfl (o_assign rfl) ?_
    refine gl_nil ?_
    refine ge_then ?_
    refine g_cond_true rfl ?_
    refine g_seq ?_
    refine g_region ?_
    refine gl_v rfl (o_assign rfl) ?_
    refine gl_nil ?_
    refine ge_then ?_
    refine g_ret ?_
    refine ge_block_ret ?_
    refine ge_then_ret ?_
    refine ret1 (.inl rfl) rfl rfl _ (⟨by (try simp only [Bool.not_false, Bool.not_true, decide_eq_true_eq, decide_eq_false_iff_not] at *); refine congrArg (Value.int .i64) ?_; unfold isc isBlank isLet isDig isSign; simp only [decide_eq_true_eq]; (repeat' split) <;> first | rfl | omega, rfl⟩) (To.sat (by repeat (first | exact .nil | exact .done .refl | (apply To.cons; · (repeat (first | exact .head | apply Sel.tail))) | exact .done (by repeat (first | exact .refl | apply Drop.skip)))))

set_option maxRecDepth 8000 in
set_option maxHeartbeats 400000 in
theorem RName_spec (l : By) (hl : l.length ≤ 9223372036854775807) : FnS Tryd.prog 35 [S l] [] (fun u Bs => u = .bool (isName l) ∧ Bs = []) := by
  refine fn_body Tryd.func35 rfl rfl rfl ?_
  intro W0 R
  simp only [List.zipIdx_cons, List.zipIdx_nil, List.map_cons, List.map_nil, Nat.zero_add, Nat.reduceAdd, List.cons_append, List.nil_append]
  refine g_seq ?_
  refine g_region ?_
  refine gl_v rfl (o_assign rfl) ?_
  refine gl_nil ?_
  refine ge_then ?_
  refine g_seq ?_
  refine g_seq ?_
  refine g_region ?_
  refine gl_v rfl (o_move rfl) ?_
  refine gl_v rfl (o_lens rfl) ?_
  refine gl_v rfl (o_lss rfl rfl) ?_
  refine gl_v rfl (o_move rfl) ?_
  refine gl_g rfl rfl (fun hc1 => ?_) (fun hc1 => ?_) rfl
  ·
    have hc1' := hc1
    first | replace hc1' := of_decide_eq_true hc1' | replace hc1' := lt_f hc1' | replace hc1' := le_f hc1' | replace hc1' := dec_f hc1' | replace hc1' := nlt_t hc1' | replace hc1' := nle_t hc1' | replace hc1' := ndec_t hc1' | replace hc1' := ndec_f hc1' | replace hc1' := nn_t hc1' | replace hc1' := nn_f hc1' | skip
    refine gl_v rfl (o_move rfl) ?_
    refine gl_gT rfl rfl hc1 ?_
    refine gl_v rfl (o_lens rfl) ?_
    refine gl_gT rfl rfl hc1 ?_
    refine gl_v rfl (o_gtr rfl rfl) ?_
    refine gl_v rfl (o_pickF hc1 rfl rfl) ?_
    refine gl_v rfl (o_move rfl) ?_
    refine gl_g rfl rfl (fun hc2 => ?_) (fun hc2 => ?_) rfl
    ·
      have hc2' := hc2
      first | replace hc2' := of_decide_eq_true hc2' | replace hc2' := lt_f hc2' | replace hc2' := le_f hc2' | replace hc2' := dec_f hc2' | replace hc2' := nlt_t hc2' | replace hc2' := nle_t hc2' | replace hc2' := ndec_t hc2' | replace hc2' := ndec_f hc2' | replace hc2' := nn_t hc2' | replace hc2' := nn_f hc2' | skip
      refine gl_v rfl (o_move rfl) ?_
      refine gl_gT rfl rfl hc2 ?_
      obtain ⟨c, r, rfl⟩ : ∃ c r, l = c :: r := by
        cases l with
        | nil => simp at *
        | cons c r => exact ⟨c, r, rfl⟩
      refine gl_v rfl (o_index_string rfl rfl (rfl)) ?_
      refine gl_gT rfl rfl hc2 ?_
      refine gl_c rfl (o_call rfl (Is_spec c) (by repeat (first | exact .nil | (apply Part.cons; · (repeat (first | exact .head | apply Sel.tail)))))) ?_
      rintro _ R ⟨_, ⟨rfl, rfl⟩, rfl⟩
      try simp only [List.cons_append, List.nil_append]
      refine gl_gT rfl rfl hc2 ?_
      refine gl_v rfl (o_neq rfl rfl) ?_
      refine gl_v rfl (o_pickF hc2 rfl rfl) ?_
      refine gl_nil ?_
      refine ge_then ?_
      refine g_cond rfl (fun hc3 => ?_) (fun hc3 => ?_)
      ·
        first | replace hc3 := of_decide_eq_true hc3 | replace hc3 := lt_f hc3 | replace hc3 := le_f hc3 | replace hc3 := dec_f hc3 | replace hc3 := nlt_t hc3 | replace hc3 := nle_t hc3 | replace hc3 := ndec_t hc3 | replace hc3 := ndec_f hc3 | replace hc3 := nn_t hc3 | replace hc3 := nn_f hc3 | skip
        refine g_seq ?_
        refine g_region ?_
        refine gl_v rfl (o_assign rfl) ?_
        refine gl_nil ?_
        refine ge_then ?_
        refine g_ret ?_
        refine ge_then_ret ?_
        refine ret1 (.inl rfl) rfl rfl _ (⟨by first | (rw [name_all hlc h16, hs, spn_no hg (in_f (by omega))]; refine bool_eq ?_; simp only [decide_eq_true_eq, Bool.false_eq_true, false_iff]; omega) | (rw [name_all hlc h16, hs, spn_end (by omega)]; refine bool_eq ?_; simp only [decide_eq_true_eq, true_iff]; omega) | rw [name_long (by omega)] | rw [name_nolet (let_f (by omega))] | (have : l = [] := List.eq_nil_of_length_eq_zero (by omega); subst this; rfl), rfl⟩) (To.sat (by repeat (first | exact .nil | exact .done .refl | (apply To.cons; · (repeat (first | exact .head | apply Sel.tail))) | exact .done (by repeat (first | exact .refl | apply Drop.skip)))))
      ·
        first | replace hc3 := of_decide_eq_true hc3 | replace hc3 := lt_f hc3 | replace hc3 := le_f hc3 | replace hc3 := dec_f hc3 | replace hc3 := nlt_t hc3 | replace hc3 := nle_t hc3 | replace hc3 := ndec_t hc3 | replace hc3 := ndec_f hc3 | replace hc3 := nn_t hc3 | replace hc3 := nn_f hc3 | skip
        refine g_skip ?_
        refine ge_then ?_
        refine g_seq ?_
        refine g_seq ?_
        obtain ⟨hlc, h16⟩ : isc c = 2 ∧ (c :: r).length ≤ 16 := by constructor <;> omega
        replace hlc := (isc_let c).1 hlc
        refine g_region ?_
        refine gl_v rfl (o_assign rfl) ?_
        refine gl_nil ?_
        refine ge_then ?_
        refine g_block ?_
        refine g_loop (ι := Nat) (fun x => x ≤ (c :: r).length ∧ spn isIn (c :: r) = x + spn isIn ((c :: r).drop x)) (fun x => [(3, I64 x), (0, S (c :: r))]) (fun _ => R) (fun x => (c :: r).length - x) 0 (⟨Nat.zero_le _, by rw [List.drop_zero, Nat.zero_add]⟩) (Keep.cons rfl (Keep.cons rfl (Keep.nil))) (To.sat (by repeat (first | exact .nil | exact .done .refl | (apply To.cons; · (repeat (first | exact .head | apply Sel.tail))) | exact .done (by repeat (first | exact .refl | apply Drop.skip))))) ?_
        rintro x ⟨hx, hs⟩
        replace hx : x ≤ (c :: r).length := hx
        replace hs : spn isIn (c :: r) = x + spn isIn ((c :: r).drop x) := hs
        refine g_seq ?_
        refine g_seq ?_
        refine g_region ?_
        refine gl_v rfl (o_move rfl) ?_
        refine gl_v rfl (o_move rfl) ?_
        refine gl_v rfl (o_lens rfl) ?_
        refine gl_v rfl (o_lss rfl rfl) ?_
        refine gl_nil ?_
        refine ge_then ?_
        refine g_cond rfl (fun hc4 => ?_) (fun hc4 => ?_)
        ·
          first | replace hc4 := of_decide_eq_true hc4 | replace hc4 := lt_f hc4 | replace hc4 := le_f hc4 | replace hc4 := dec_f hc4 | replace hc4 := nlt_t hc4 | replace hc4 := nle_t hc4 | replace hc4 := ndec_t hc4 | replace hc4 := ndec_f hc4 | replace hc4 := nn_t hc4 | replace hc4 := nn_f hc4 | skip
          refine g_skip ?_
          refine ge_then ?_
          refine g_seq ?_
          refine g_block ?_
          refine g_seq ?_
          refine g_region ?_
          refine gl_v rfl (o_move rfl) ?_
          refine gl_v rfl (o_move rfl) ?_
          obtain ⟨d, hg⟩ : ∃ d, (c :: r)[x]? = some d := ⟨_, List.getElem?_eq_getElem (show x < (c :: r).length by omega)⟩
          refine gl_v rfl (o_index_string rfl rfl (hg)) ?_
          refine gl_c rfl (o_call rfl (Is_spec d) (by repeat (first | exact .nil | (apply Part.cons; · (repeat (first | exact .head | apply Sel.tail)))))) ?_
          rintro _ R ⟨_, ⟨rfl, rfl⟩, rfl⟩
          try simp only [List.cons_append, List.nil_append]
          refine gl_v rfl (o_assign rfl) ?_
          refine gl_nil ?_
          refine ge_then ?_
          refine g_seq ?_
          refine g_region ?_
          refine gl_v rfl (o_move rfl) ?_
          refine gl_v rfl (o_neq rfl rfl) ?_
          refine gl_v rfl (o_move rfl) ?_
          refine gl_g rfl rfl (fun hc5 => ?_) (fun hc5 => ?_) rfl
          ·
            have hc5' := hc5
            first | replace hc5' := of_decide_eq_true hc5' | replace hc5' := lt_f hc5' | replace hc5' := le_f hc5' | replace hc5' := dec_f hc5' | replace hc5' := nlt_t hc5' | replace hc5' := nle_t hc5' | replace hc5' := ndec_t hc5' | replace hc5' := ndec_f hc5' | replace hc5' := nn_t hc5' | replace hc5' := nn_f hc5' | skip
            refine gl_v rfl (o_move rfl) ?_
            refine gl_gT rfl rfl hc5 ?_
            refine gl_v rfl (o_neq rfl rfl) ?_
            refine gl_v rfl (o_pickT hc5 rfl rfl) ?_
            refine gl_v rfl (o_move rfl) ?_
            refine gl_g rfl rfl (fun hc6 => ?_) (fun hc6 => ?_) rfl
            ·
              have hc6' := hc6
              first | replace hc6' := of_decide_eq_true hc6' | replace hc6' := lt_f hc6' | replace hc6' := le_f hc6' | replace hc6' := dec_f hc6' | replace hc6' := nlt_t hc6' | replace hc6' := nle_t hc6' | replace hc6' := ndec_t hc6' | replace hc6' := ndec_f hc6' | replace hc6' := nn_t hc6' | replace hc6' := nn_f hc6' | skip
              refine gl_v rfl (o_move rfl) ?_
              refine gl_gT rfl rfl hc6 ?_
              refine gl_v rfl (o_neq rfl rfl) ?_
              refine gl_v rfl (o_pickT hc6 rfl rfl) ?_
              refine gl_nil ?_
              refine ge_then ?_
              refine g_cond rfl (fun hc7 => ?_) (fun hc7 => ?_)
              ·
                first | replace hc7 := of_decide_eq_true hc7 | replace hc7 := lt_f hc7 | replace hc7 := le_f hc7 | replace hc7 := dec_f hc7 | replace hc7 := nlt_t hc7 | replace hc7 := nle_t hc7 | replace hc7 := ndec_t hc7 | replace hc7 := ndec_f hc7 | replace hc7 := nn_t hc7 | replace hc7 := nn_f hc7 | skip
                refine g_seq ?_
                refine g_region ?_
                refine gl_v rfl (o_assign rfl) ?_
                refine gl_nil ?_
                refine ge_then ?_
                refine g_ret ?_
                refine ge_block_ret ?_
                refine ge_then_ret ?_
                refine ge_then_ret ?_
                refine ge_block_ret ?_
                refine ge_then_ret ?_
                refine ret1 (.inl rfl) rfl rfl _ (⟨by first | (rw [name_all hlc h16, hs, spn_no hg (in_f (by omega))]; refine bool_eq ?_; simp only [decide_eq_true_eq, Bool.false_eq_true, false_iff]; omega) | (rw [name_all hlc h16, hs, spn_end (by omega)]; refine bool_eq ?_; simp only [decide_eq_true_eq, true_iff]; omega) | rw [name_long (by omega)] | rw [name_nolet (let_f (by omega))] | (have : l = [] := List.eq_nil_of_length_eq_zero (by omega); subst this; rfl), rfl⟩) (To.sat (by repeat (first | exact .nil | exact .done .refl | (apply To.cons; · (repeat (first | exact .head | apply Sel.tail))) | exact .done (by repeat (first | exact .refl | apply Drop.skip)))))
              ·
                first | replace hc7 := of_decide_eq_true hc7 | replace hc7 := lt_f hc7 | replace hc7 := le_f hc7 | replace hc7 := dec_f hc7 | replace hc7 := nlt_t hc7 | replace hc7 := nle_t hc7 | replace hc7 := ndec_t hc7 | replace hc7 := ndec_f hc7 | replace hc7 := nn_t hc7 | replace hc7 := nn_f hc7 | skip
                refine g_skip ?_
                refine ge_block ?_
                refine ge_then ?_
                refine g_region ?_
                refine gl_v rfl (o_move rfl) ?_
                refine gl_v rfl (o_addR (((x + 1 : Nat) : Int)) (by rw [wr_i64 (by omega)]; omega) rfl rfl) ?_
                refine gl_v rfl (o_assign rfl) ?_
                refine gl_nil ?_
                have hi : isIn d = true := (isc_in d).2 (by omega)
                refine ge_round (x + 1) ⟨show x + 1 ≤ (c :: r).length by omega, show spn isIn (c :: r) = x + 1 + spn isIn ((c :: r).drop (x + 1)) by rw [hs, spn_step hg hi]; omega⟩ (show (c :: r).length - (x + 1) < (c :: r).length - x by omega) (Keep.cons rfl (Keep.cons rfl (Keep.nil))) (To.sat (by repeat (first | exact .nil | exact .done .refl | (apply To.cons; · (repeat (first | exact .head | apply Sel.tail))) | exact .done (by repeat (first | exact .refl | apply Drop.skip)))))
            ·
              have hc6' := hc6
              first | replace hc6' := of_decide_eq_true hc6' | replace hc6' := lt_f hc6' | replace hc6' := le_f hc6' | replace hc6' := dec_f hc6' | replace hc6' := nlt_t hc6' | replace hc6' := nle_t hc6' | replace hc6' := ndec_t hc6' | replace hc6' := ndec_f hc6' | replace hc6' := nn_t hc6' | replace hc6' := nn_f hc6' | skip
              simp only [putO]
              refine gl_gF rfl rfl hc6 rfl ?_
              refine gl_v rfl (o_pickF hc6 rfl rfl) ?_
              refine gl_nil ?_
              refine ge_then ?_
              refine g_cond_false rfl ?_
              refine g_skip ?_
              refine ge_block ?_
              refine ge_then ?_
              refine g_region ?_
              refine gl_v rfl (o_move rfl) ?_
              refine gl_v rfl (o_addR (((x + 1 : Nat) : Int)) (by rw [wr_i64 (by omega)]; omega) rfl rfl) ?_
              refine gl_v rfl (o_assign rfl) ?_
              refine gl_nil ?_
              have hi : isIn d = true := (isc_in d).2 (by omega)
              refine ge_round (x + 1) ⟨show x + 1 ≤ (c :: r).length by omega, show spn isIn (c :: r) = x + 1 + spn isIn ((c :: r).drop (x + 1)) by rw [hs, spn_step hg hi]; omega⟩ (show (c :: r).length - (x + 1) < (c :: r).length - x by omega) (Keep.cons rfl (Keep.cons rfl (Keep.nil))) (To.sat (by repeat (first | exact .nil | exact .done .refl | (apply To.cons; · (repeat (first | exact .head | apply Sel.tail))) | exact .done (by repeat (first | exact .refl | apply Drop.skip)))))
          ·
            have hc5' := hc5
            first | replace hc5' := of_decide_eq_true hc5' | replace hc5' := lt_f hc5' | replace hc5' := le_f hc5' | replace hc5' := dec_f hc5' | replace hc5' := nlt_t hc5' | replace hc5' := nle_t hc5' | replace hc5' := ndec_t hc5' | replace hc5' := ndec_f hc5' | replace hc5' := nn_t hc5' | replace hc5' := nn_f hc5' | skip
            simp only [putO]
            refine gl_gF rfl rfl hc5 rfl ?_
            refine gl_v rfl (o_pickF hc5 rfl rfl) ?_
            refine gl_v rfl (o_move rfl) ?_
            refine gl_gF rfl rfl rfl rfl ?_
            refine gl_gF rfl rfl rfl rfl ?_
            refine gl_v rfl (o_pickF rfl rfl rfl) ?_
            refine gl_nil ?_
            refine ge_then ?_
            refine g_cond_false rfl ?_
            refine g_skip ?_
            refine ge_block ?_
            refine ge_then ?_
            refine g_region ?_
            refine gl_v rfl (o_move rfl) ?_
            refine gl_v rfl (o_addR (((x + 1 : Nat) : Int)) (by rw [wr_i64 (by omega)]; omega) rfl rfl) ?_
            refine gl_v rfl (o_assign rfl) ?_
            refine gl_nil ?_
            have hi : isIn d = true := (isc_in d).2 (by omega)
            refine ge_round (x + 1) ⟨show x + 1 ≤ (c :: r).length by omega, show spn isIn (c :: r) = x + 1 + spn isIn ((c :: r).drop (x + 1)) by rw [hs, spn_step hg hi]; omega⟩ (show (c :: r).length - (x + 1) < (c :: r).length - x by omega) (Keep.cons rfl (Keep.cons rfl (Keep.nil))) (To.sat (by repeat (first | exact .nil | exact .done .refl | (apply To.cons; · (repeat (first | exact .head | apply Sel.tail))) | exact .done (by repeat (first | exact .refl | apply Drop.skip)))))
        ·
          first | replace hc4 := of_decide_eq_true hc4 | replace hc4 := lt_f hc4 | replace hc4 := le_f hc4 | replace hc4 := dec_f hc4 | replace hc4 := nlt_t hc4 | replace hc4 := nle_t hc4 | replace hc4 := ndec_t hc4 | replace hc4 := ndec_f hc4 | replace hc4 := nn_t hc4 | replace hc4 := nn_f hc4 | skip
          refine g_exit ?_
          refine ge_then_exit ?_
          refine ge_then_exit ?_
          refine ge_block_exit ?_
          refine ge_then ?_
          refine g_seq ?_
          refine g_region ?_
          refine gl_v rfl (o_assign rfl) ?_
          refine gl_nil ?_
          refine ge_then ?_
          refine g_ret ?_
          refine ret1 (.inl rfl) rfl rfl _ (⟨by first | (rw [name_all hlc h16, hs, spn_no hg (in_f (by omega))]; refine bool_eq ?_; simp only [decide_eq_true_eq, Bool.false_eq_true, false_iff]; omega) | (rw [name_all hlc h16, hs, spn_end (by omega)]; refine bool_eq ?_; simp only [decide_eq_true_eq, true_iff]; omega) | rw [name_long (by omega)] | rw [name_nolet (let_f (by omega))] | (have : l = [] := List.eq_nil_of_length_eq_zero (by omega); subst this; rfl), rfl⟩) (To.sat (by repeat (first | exact .nil | exact .done .refl | (apply To.cons; · (repeat (first | exact .head | apply Sel.tail))) | exact .done (by repeat (first | exact .refl | apply Drop.skip)))))
    ·
      have hc2' := hc2
      first | replace hc2' := of_decide_eq_true hc2' | replace hc2' := lt_f hc2' | replace hc2' := le_f hc2' | replace hc2' := dec_f hc2' | replace hc2' := nlt_t hc2' | replace hc2' := nle_t hc2' | replace hc2' := ndec_t hc2' | replace hc2' := ndec_f hc2' | replace hc2' := nn_t hc2' | replace hc2' := nn_f hc2' | skip
      simp only [putO]
      refine gl_gF rfl rfl hc2 rfl ?_
      refine gl_gF rfl rfl hc2 rfl ?_
      refine gl_gF rfl rfl hc2 rfl ?_
      refine gl_v rfl (o_pickT hc2 rfl rfl) ?_
      refine gl_nil ?_
      refine ge_then ?_
      refine g_cond_true rfl ?_
      refine g_seq ?_
      refine g_region ?_
      refine gl_v rfl (o_assign rfl) ?_
      refine gl_nil ?_
      refine ge_then ?_
      refine g_ret ?_
      refine ge_then_ret ?_
      refine ret1 (.inl rfl) rfl rfl _ (⟨by first | (rw [name_all hlc h16, hs, spn_no hg (in_f (by omega))]; refine bool_eq ?_; simp only [decide_eq_true_eq, Bool.false_eq_true, false_iff]; omega) | (rw [name_all hlc h16, hs, spn_end (by omega)]; refine bool_eq ?_; simp only [decide_eq_true_eq, true_iff]; omega) | rw [name_long (by omega)] | rw [name_nolet (let_f (by omega))] | (have : l = [] := List.eq_nil_of_length_eq_zero (by omega); subst this; rfl), rfl⟩) (To.sat (by repeat (first | exact .nil | exact .done .refl | (apply To.cons; · (repeat (first | exact .head | apply Sel.tail))) | exact .done (by repeat (first | exact .refl | apply Drop.skip)))))
  ·
    have hc1' := hc1
    first | replace hc1' := of_decide_eq_true hc1' | replace hc1' := lt_f hc1' | replace hc1' := le_f hc1' | replace hc1' := dec_f hc1' | replace hc1' := nlt_t hc1' | replace hc1' := nle_t hc1' | replace hc1' := ndec_t hc1' | replace hc1' := ndec_f hc1' | replace hc1' := nn_t hc1' | replace hc1' := nn_f hc1' | skip
    simp only [putO]
    refine gl_gF rfl rfl hc1 rfl ?_
    refine gl_gF rfl rfl hc1 rfl ?_
    refine gl_v rfl (o_pickT hc1 rfl rfl) ?_
    refine gl_v rfl (o_move rfl) ?_
    refine gl_gF rfl rfl rfl rfl ?_
    refine gl_gF rfl rfl rfl rfl ?_
    refine gl_gF rfl rfl rfl rfl ?_
    refine gl_gF rfl rfl rfl rfl ?_
    refine gl_v rfl (o_pickT rfl rfl rfl) ?_
    refine gl_nil ?_
    refine ge_then ?_
    refine g_cond_true rfl ?_
    refine g_seq ?_
    refine g_region ?_
    refine gl_v rfl (o_assign rfl) ?_
    refine gl_nil ?_
    refine ge_then ?_
    refine g_ret ?_
    refine ge_then_ret ?_
    refine ret1 (.inl rfl) rfl rfl _ (⟨by first | (rw [name_all hlc h16, hs, spn_no hg (in_f (by omega))]; refine bool_eq ?_; simp only [decide_eq_true_eq, Bool.false_eq_true, false_iff]; omega) | (rw [name_all hlc h16, hs, spn_end (by omega)]; refine bool_eq ?_; simp only [decide_eq_true_eq, true_iff]; omega) | rw [name_long (by omega)] | rw [name_nolet (let_f (by omega))] | (have : l = [] := List.eq_nil_of_length_eq_zero (by omega); subst this; rfl), rfl⟩) (To.sat (by repeat (first | exact .nil | exact .done .refl | (apply To.cons; · (repeat (first | exact .head | apply Sel.tail))) | exact .done (by repeat (first | exact .refl | apply Drop.skip)))))

end Go.Proofs.YtgmdlhlmffdbhaaDoor.L
