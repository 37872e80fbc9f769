/-
  Names: what lex.Name and the reference's Name compute. Own work, printed in part by a program of its own.
-/
import Derived.Test.YtcglaiacohkaeaaDoorFacts
import Derived.Test.YtcglaiacohkaeaaDoorLexP
import Derived.Test.YtcglaiacohkaeaaDoorFns
set_option linter.unusedSimpArgs false
set_option linter.unusedVariables false
set_option linter.unusedSectionVars false
namespace Go.Proofs.YtcglaiacohkaeaaDoor.L
open Go.L Go.L.Lx


attribute [local irreducible] isLet isDig isIn isBlank isSign notNl
abbrev B8 (c : UInt8) : Value := .int .u8 c.toNat
theorem bool_eq {a b : Bool} (h : a = true ↔ b = true) : Value.bool a = Value.bool b := by rw [Bool.eq_iff_iff.2 h]
theorem name_take {c : UInt8} {r : By} (h : isLet c = true) : isName ((c :: r).take (spn isIn (c :: r))) = decide (spn isIn (c :: r) ≤ 16) := by
  have h1 := spn_take isIn (c :: r)
  have h2 : ((c :: r).take (spn isIn (c :: r))).length = spn isIn (c :: r) := by rw [List.length_take]; exact Nat.min_eq_left (spn_le _ _)
  obtain ⟨s, hs⟩ : ∃ s, (c :: r).take (spn isIn (c :: r)) = c :: s := ⟨r.take (spn isIn r), by rw [spn_cons (let_in h), List.take_succ_cons]⟩
  rw [hs] at h1 h2 ⊢
  have h3 : spn isIn (c :: s) = (c :: s).length := by have := spn_app (p := isIn) (c :: s) [] h1; rw [List.append_nil] at this; exact this
  unfold isName
  simp only [h, h3, Bool.true_and, h2, decide_true]
theorem isName_eq (c : UInt8) (r : By) : isName (c :: r) = (isLet c && decide (spn isIn (c :: r) = (c :: r).length) && decide ((c :: r).length ≤ 16)) := rfl
theorem name_long {l : By} (h : 16 < l.length) : isName l = false := by
  cases l with
  | nil => rfl
  | cons c r => rw [isName_eq, decide_eq_false (p := (c :: r).length ≤ 16) (by omega), Bool.and_false]
theorem name_nolet {c : UInt8} {r : By} (h : isLet c = false) : isName (c :: r) = false := by rw [isName_eq, h]; rfl
theorem name_all {c : UInt8} {r : By} (h : isLet c = true) (h2 : (c :: r).length ≤ 16) : isName (c :: r) = decide (((spn isIn (c :: r) : Nat) : Int) = ((c :: r).length : Nat)) := by
  rw [isName_eq, h, decide_eq_true h2, Bool.true_and, Bool.and_true, Bool.eq_iff_iff]
  simp only [decide_eq_true_eq]; omega
def isc (c : UInt8) : Nat := if isBlank c then 1 else if isLet c then 2 else if isDig c then 3 else if c.toNat = 95 then 4 else if isSign c then 5 else if c.toNat = 35 then 6 else 0
theorem isc_let (c : UInt8) : isc c = 2 ↔ isLet c = true := by
  unfold isc isBlank isLet isDig isSign; simp only [decide_eq_true_eq]; (repeat' split) <;> omega
theorem isc_in (c : UInt8) : isIn c = true ↔ isc c = 2 ∨ isc c = 3 ∨ isc c = 4 := by
  unfold isc isBlank isLet isDig isSign isIn; simp only [decide_eq_true_eq]; (repeat' split) <;> omega
theorem in_f {c : UInt8} (h : ¬ (isc c = 2 ∨ isc c = 3 ∨ isc c = 4)) : isIn c = false := by
  cases hi : isIn c with
  | false => rfl
  | true => exact absurd ((isc_in c).1 hi) h
theorem let_f {c : UInt8} (h : isc c ≠ 2) : isLet c = false := by
  cases hi : isLet c with
  | false => rfl
  | true => exact absurd ((isc_let c).2 hi) h

set_option maxRecDepth 8000 in
set_option maxHeartbeats 400000 in
theorem letter_spec (c : UInt8) : FnS Tryd.prog 64 [B8 c] [] (fun u Bs => u = .bool (isLet c) ∧ Bs = []) := by
 refine fn_body Tryd.func64 rfl rfl rfl ?_
 intro W0 R
 simp only [List.zipIdx_cons, List.zipIdx_nil, List.map_cons, List.map_nil, Nat.zero_add, Nat.reduceAdd, List.cons_append, List.nil_append]
 refine g_seq ?_
 refine g_region ?_
 refine gl_v rfl (o_assign rfl) ?_
 refine gl_nil ?_
 refine ge_then ?_
 refine g_seq ?_
 refine g_region ?_
 refine gl_v rfl (o_move rfl) ?_
 refine gl_v rfl (o_geq rfl rfl) ?_
 refine gl_v rfl (o_move rfl) ?_
 refine gl_g rfl rfl (fun hc1 => ?_) (fun hc1 => ?_) rfl
 ·
  have hc1' := hc1
  replace hc1' := hs_ hc1'
  refine gl_v rfl (o_move rfl) ?_
  refine gl_gT rfl rfl hc1 ?_
  refine gl_v rfl (o_leq rfl rfl) ?_
  refine gl_v rfl (o_pickT hc1 rfl rfl) ?_
  refine gl_v rfl (o_assign rfl) ?_
  refine gl_nil ?_
  refine ge_then ?_
  refine g_ret ?_
  refine ret1 (.inl rfl) rfl rfl _ (⟨by unfold isLet; refine bool_eq ?_; (try simp only [decide_eq_true_eq, Bool.false_eq_true, Bool.true_eq_false, Bool.not_eq_true', decide_eq_false_iff_not, Bool.and_eq_true, Bool.or_eq_true, true_iff, false_iff, iff_true, iff_false]); omega, rfl⟩) (tO)
 ·
  have hc1' := hc1
  replace hc1' := hs_ hc1'
  simp only [putO]
  refine gl_gF rfl rfl hc1 rfl ?_
  refine gl_v rfl (o_pickF hc1 rfl rfl) ?_
  refine gl_v rfl (o_assign rfl) ?_
  refine gl_nil ?_
  refine ge_then ?_
  refine g_ret ?_
  refine ret1 (.inl rfl) rfl rfl _ (⟨by unfold isLet; refine bool_eq ?_; (try simp only [decide_eq_true_eq, Bool.false_eq_true, Bool.true_eq_false, Bool.not_eq_true', decide_eq_false_iff_not, Bool.and_eq_true, Bool.or_eq_true, true_iff, false_iff, iff_true, iff_false]); omega, rfl⟩) (tO)

set_option maxRecDepth 8000 in
set_option maxHeartbeats 400000 in
theorem digit_spec (c : UInt8) : FnS Tryd.prog 83 [B8 c] [] (fun u Bs => u = .bool (isDig c) ∧ Bs = []) := by
 refine fn_body Tryd.func83 rfl rfl rfl ?_
 intro W0 R
 simp only [List.zipIdx_cons, List.zipIdx_nil, List.map_cons, List.map_nil, Nat.zero_add, Nat.reduceAdd, List.cons_append, List.nil_append]
 refine g_seq ?_
 refine g_region ?_
 refine gl_v rfl (o_assign rfl) ?_
 refine gl_nil ?_
 refine ge_then ?_
 refine g_seq ?_
 refine g_region ?_
 refine gl_v rfl (o_move rfl) ?_
 refine gl_v rfl (o_geq rfl rfl) ?_
 refine gl_v rfl (o_move rfl) ?_
 refine gl_g rfl rfl (fun hc1 => ?_) (fun hc1 => ?_) rfl
 ·
  have hc1' := hc1
  replace hc1' := hs_ hc1'
  refine gl_v rfl (o_move rfl) ?_
  refine gl_gT rfl rfl hc1 ?_
  refine gl_v rfl (o_leq rfl rfl) ?_
  refine gl_v rfl (o_pickT hc1 rfl rfl) ?_
  refine gl_v rfl (o_assign rfl) ?_
  refine gl_nil ?_
  refine ge_then ?_
  refine g_ret ?_
  refine ret1 (.inl rfl) rfl rfl _ (⟨by unfold isDig; refine bool_eq ?_; (try simp only [decide_eq_true_eq, Bool.false_eq_true, Bool.true_eq_false, Bool.not_eq_true', decide_eq_false_iff_not, Bool.and_eq_true, Bool.or_eq_true, true_iff, false_iff, iff_true, iff_false]); omega, rfl⟩) (tO)
 ·
  have hc1' := hc1
  replace hc1' := hs_ hc1'
  simp only [putO]
  refine gl_gF rfl rfl hc1 rfl ?_
  refine gl_v rfl (o_pickF hc1 rfl rfl) ?_
  refine gl_v rfl (o_assign rfl) ?_
  refine gl_nil ?_
  refine ge_then ?_
  refine g_ret ?_
  refine ret1 (.inl rfl) rfl rfl _ (⟨by unfold isDig; refine bool_eq ?_; (try simp only [decide_eq_true_eq, Bool.false_eq_true, Bool.true_eq_false, Bool.not_eq_true', decide_eq_false_iff_not, Bool.and_eq_true, Bool.or_eq_true, true_iff, false_iff, iff_true, iff_false]); omega, rfl⟩) (tO)

set_option maxRecDepth 8000 in
set_option maxHeartbeats 400000 in
theorem inner_spec (c : UInt8) : FnS Tryd.prog 66 [B8 c] [] (fun u Bs => u = .bool (isIn c) ∧ Bs = []) := by
 refine fn_body Tryd.func66 rfl rfl rfl ?_
 intro W0 R
 simp only [List.zipIdx_cons, List.zipIdx_nil, List.map_cons, List.map_nil, Nat.zero_add, Nat.reduceAdd, List.cons_append, List.nil_append]
 refine g_seq ?_
 refine g_region ?_
 refine gl_v rfl (o_assign rfl) ?_
 refine gl_nil ?_
 refine ge_then ?_
 refine g_seq ?_
 refine g_region ?_
 refine gl_v rfl (o_move rfl) ?_
 refine gl_c rfl (o_call rfl (letter_spec _) pA) ?_
 rintro _ R ⟨_, ⟨rfl, rfl⟩, rfl⟩
 try simp only [List.cons_append, List.nil_append]
 refine gl_v rfl (o_move rfl) ?_
 refine gl_g rfl rfl (fun hc1 => ?_) (fun hc1 => ?_) rfl
 ·
  have hc1' := hc1
  replace hc1' := hs_ hc1'
  refine gl_v rfl (o_move rfl) ?_
  refine gl_gT rfl rfl hc1 ?_
  refine gl_c rfl (o_call rfl (digit_spec _) pA) ?_
  rintro _ R ⟨_, ⟨rfl, rfl⟩, rfl⟩
  try simp only [List.cons_append, List.nil_append]
  refine gl_v rfl (o_pickF hc1 rfl rfl) ?_
  refine gl_v rfl (o_move rfl) ?_
  refine gl_g rfl rfl (fun hc2 => ?_) (fun hc2 => ?_) rfl
  ·
   have hc2' := hc2
   replace hc2' := hs_ hc2'
   refine gl_v rfl (o_move rfl) ?_
   refine gl_gT rfl rfl hc2 ?_
   refine gl_v rfl (o_eql rfl rfl) ?_
   refine gl_v rfl (o_pickF hc2 rfl rfl) ?_
   refine gl_v rfl (o_assign rfl) ?_
   refine gl_nil ?_
   refine ge_then ?_
   refine g_ret ?_
   refine ret1 (.inl rfl) rfl rfl _ (⟨by refine bool_eq ?_; unfold isIn; (try simp only [isLet, isDig, Bool.not_false, Bool.not_true] at *); (try simp only [decide_eq_true_eq, decide_eq_false_iff_not] at *); (try simp only [decide_eq_true_eq, Bool.false_eq_true, Bool.true_eq_false, Bool.not_eq_true', decide_eq_false_iff_not, Bool.and_eq_true, Bool.or_eq_true, true_iff, false_iff, iff_true, iff_false]); omega, rfl⟩) (tO)
  ·
   have hc2' := hc2
   replace hc2' := hs_ hc2'
   simp only [putO]
   refine gl_gF rfl rfl hc2 rfl ?_
   refine gl_v rfl (o_pickT hc2 rfl rfl) ?_
   refine gl_v rfl (o_assign rfl) ?_
   refine gl_nil ?_
   refine ge_then ?_
   refine g_ret ?_
   refine ret1 (.inl rfl) rfl rfl _ (⟨by refine bool_eq ?_; unfold isIn; (try simp only [isLet, isDig, Bool.not_false, Bool.not_true] at *); (try simp only [decide_eq_true_eq, decide_eq_false_iff_not] at *); (try simp only [decide_eq_true_eq, Bool.false_eq_true, Bool.true_eq_false, Bool.not_eq_true', decide_eq_false_iff_not, Bool.and_eq_true, Bool.or_eq_true, true_iff, false_iff, iff_true, iff_false]); omega, rfl⟩) (tO)
 ·
  have hc1' := hc1
  replace hc1' := hs_ hc1'
  simp only [putO]
  refine gl_gF rfl rfl hc1 rfl ?_
  refine gl_v rfl (o_pickT hc1 rfl rfl) ?_
  refine gl_v rfl (o_move rfl) ?_
  refine gl_gF rfl rfl rfl rfl ?_
  refine gl_gF rfl rfl rfl rfl ?_
  refine gl_v rfl (o_pickT rfl rfl rfl) ?_
  refine gl_v rfl (o_assign rfl) ?_
  refine gl_nil ?_
  refine ge_then ?_
  refine g_ret ?_
  refine ret1 (.inl rfl) rfl rfl _ (⟨by refine bool_eq ?_; unfold isIn; (try simp only [isLet, isDig, Bool.not_false, Bool.not_true] at *); (try simp only [decide_eq_true_eq, decide_eq_false_iff_not] at *); (try simp only [decide_eq_true_eq, Bool.false_eq_true, Bool.true_eq_false, Bool.not_eq_true', decide_eq_false_iff_not, Bool.and_eq_true, Bool.or_eq_true, true_iff, false_iff, iff_true, iff_false]); omega, rfl⟩) (tO)

set_option maxRecDepth 8000 in
set_option maxHeartbeats 400000 in
theorem span_spec (q : UInt8 → Bool) (F : FuncId) [TFunc Tryd.prog F] (hF : ∀ c, FnS Tryd.prog F [B8 c] [] (fun u Bs => u = .bool (q c) ∧ Bs = [])) (l : By) (hl : l.length ≤ 9223372036854775807) : FnS Tryd.prog 65 [S l, .func (.func F) #[] #[]] [] (fun u Bs => u = I64 (spn q l) ∧ Bs = []) := by
 refine fn_body Tryd.func65 rfl rfl rfl ?_
 intro W0 R
 simp only [List.zipIdx_cons, List.zipIdx_nil, List.map_cons, List.map_nil, Nat.zero_add, Nat.reduceAdd, List.cons_append, List.nil_append]
 refine g_seq ?_
 refine g_region ?_
 refine gl_v rfl (o_assign rfl) ?_
 refine gl_nil ?_
 refine ge_then ?_
 refine g_seq ?_
 refine g_region ?_
 refine gl_v rfl (o_assign rfl) ?_
 refine gl_nil ?_
 refine ge_then ?_
 refine g_seq ?_
 refine g_block ?_
 refine g_loop (ι := Nat) (fun x => x ≤ l.length ∧ spn q l = x + spn q (l.drop x)) (fun x => [(5, I64 x), (0, S l), (1, .func (.func F) #[] #[])]) (fun _ => R) (fun x => l.length - x) 0 (⟨Nat.zero_le _, by rw [List.drop_zero, Nat.zero_add]⟩) (Keep.cons rfl (Keep.cons rfl (Keep.cons rfl (Keep.nil)))) (tO) ?_
 rintro x ⟨hx, hs⟩
 replace hx : x ≤ l.length := hx
 replace hs : spn q l = x + spn q (l.drop x) := hs
 refine g_seq ?_
 refine g_seq ?_
 refine g_region ?_
 refine gl_v rfl (o_move rfl) ?_
 refine gl_v rfl (o_move rfl) ?_
 refine gl_v rfl (o_lens rfl) ?_
 refine gl_v rfl (o_lss rfl rfl) ?_
 refine gl_v rfl (o_move rfl) ?_
 refine gl_g rfl rfl (fun hc1 => ?_) (fun hc1 => ?_) rfl
 ·
  have hc1' := hc1
  replace hc1' := hs_ hc1'
  refine gl_v rfl (o_move rfl) ?_
  refine gl_gT rfl rfl hc1 ?_
  refine gl_v rfl (o_move rfl) ?_
  refine gl_gT rfl rfl hc1 ?_
  refine gl_v rfl (o_move rfl) ?_
  refine gl_gT rfl rfl hc1 ?_
  obtain ⟨c, hg⟩ : ∃ c, l[x]? = some c := ⟨_, List.getElem?_eq_getElem (show x < l.length by omega)⟩
  refine gl_v rfl (o_index_string rfl rfl (hg)) ?_
  refine gl_gT rfl rfl hc1 ?_
  refine gl_c rfl (o_callV rfl rfl (hF c) pA) ?_
  rintro _ R ⟨_, ⟨rfl, rfl⟩, rfl⟩
  try simp only [List.cons_append, List.nil_append]
  refine gl_v rfl (o_pickT hc1 rfl rfl) ?_
  refine gl_nil ?_
  refine ge_then ?_
  refine g_cond rfl (fun hc2 => ?_) (fun hc2 => ?_)
  ·
   replace hc2 := hs_ hc2
   refine g_skip ?_
   refine ge_then ?_
   refine g_block ?_
   refine g_region ?_
   refine gl_v rfl (o_move rfl) ?_
   refine gl_v rfl (o_addR (((x + 1 : Nat) : Int)) (by rw [wr_i64 (by omega)]; omega) rfl rfl) ?_
   refine gl_v rfl (o_assign rfl) ?_
   refine gl_nil ?_
   refine ge_block ?_
   have hq : q c = true := by first | exact hc1 | exact hc2 | exact hc3 | assumption
   refine ge_round (x + 1) ⟨show x + 1 ≤ l.length by omega, show spn q l = x + 1 + spn q (l.drop (x + 1)) by rw [hs, spn_step hg hq]; omega⟩ (show l.length - (x + 1) < l.length - x by omega) (Keep.cons rfl (Keep.cons rfl (Keep.cons rfl (Keep.nil)))) (tO)
  ·
   replace hc2 := hs_ hc2
   refine g_exit ?_
   refine ge_then_exit ?_
   refine ge_then_exit ?_
   refine ge_block_exit ?_
   refine ge_then ?_
   refine g_seq ?_
   refine g_region ?_
   refine gl_v rfl (o_move rfl) ?_
   refine gl_v rfl (o_assign rfl) ?_
   refine gl_nil ?_
   refine ge_then ?_
   refine g_ret ?_
   refine ret1 (.inl rfl) rfl rfl _ (⟨by rw [hs]; first | (rw [spn_end (by omega)]; rfl) | (rw [spn_no hg (by first | exact hc1 | exact hc2 | exact hc3 | assumption)]; rfl), rfl⟩) (tO)
 ·
  have hc1' := hc1
  replace hc1' := hs_ hc1'
  simp only [putO]
  refine gl_gF rfl rfl hc1 rfl ?_
  refine gl_gF rfl rfl hc1 rfl ?_
  refine gl_gF rfl rfl hc1 rfl ?_
  refine gl_gF rfl rfl hc1 rfl ?_
  refine gl_v rfl (o_pickF hc1 rfl rfl) ?_
  refine gl_nil ?_
  refine ge_then ?_
  refine g_cond_false rfl ?_
  refine g_exit ?_
  refine ge_then_exit ?_
  refine ge_then_exit ?_
  refine ge_block_exit ?_
  refine ge_then ?_
  refine g_seq ?_
  refine g_region ?_
  refine gl_v rfl (o_move rfl) ?_
  refine gl_v rfl (o_assign rfl) ?_
  refine gl_nil ?_
  refine ge_then ?_
  refine g_ret ?_
  refine ret1 (.inl rfl) rfl rfl _ (⟨by rw [hs]; first | (rw [spn_end (by omega)]; rfl) | (rw [spn_no hg (by first | exact hc1 | exact hc2 | exact hc3 | assumption)]; rfl), rfl⟩) (tO)

set_option maxRecDepth 8000 in
set_option maxHeartbeats 400000 in
theorem Name_spec (l : By) (hl : l.length ≤ 9223372036854775807) : FnS Tryd.prog 53 [S l] [] (fun u Bs => u = .bool (isName l) ∧ Bs = []) := by
 refine fn_body Tryd.func53 rfl rfl rfl ?_
 intro W0 R
 simp only [List.zipIdx_cons, List.zipIdx_nil, List.map_cons, List.map_nil, Nat.zero_add, Nat.reduceAdd, List.cons_append, List.nil_append]
 refine g_seq ?_
 refine g_region ?_
 refine gl_v rfl (o_assign rfl) ?_
 refine gl_nil ?_
 refine ge_then ?_
 refine g_seq ?_
 refine g_region ?_
 refine gl_v rfl (o_move rfl) ?_
 refine gl_v rfl (o_neqs rfl rfl) ?_
 refine gl_v rfl (o_move rfl) ?_
 refine gl_g rfl rfl (fun hc1 => ?_) (fun hc1 => ?_) rfl
 ·
  have hc1' := hc1
  replace hc1' := hs_ hc1'
  refine gl_v rfl (o_move rfl) ?_
  refine gl_gT rfl rfl hc1 ?_
  refine gl_v rfl (o_lens rfl) ?_
  refine gl_gT rfl rfl hc1 ?_
  refine gl_v rfl (o_leq rfl rfl) ?_
  refine gl_v rfl (o_pickT hc1 rfl rfl) ?_
  refine gl_v rfl (o_move rfl) ?_
  refine gl_g rfl rfl (fun hc2 => ?_) (fun hc2 => ?_) rfl
  ·
   have hc2' := hc2
   replace hc2' := hs_ hc2'
   refine gl_v rfl (o_move rfl) ?_
   refine gl_gT rfl rfl hc2 ?_
   obtain ⟨c, r, rfl⟩ : ∃ c r, l = c :: r := by
     cases l with
     | nil => simp at *
     | cons c r => exact ⟨c, r, rfl⟩
   refine gl_v rfl (o_index_string rfl rfl (rfl)) ?_
   refine gl_gT rfl rfl hc2 ?_
   refine gl_c rfl (o_call rfl (letter_spec _) pA) ?_
   rintro _ R ⟨_, ⟨rfl, rfl⟩, rfl⟩
   try simp only [List.cons_append, List.nil_append]
   refine gl_v rfl (o_pickT hc2 rfl rfl) ?_
   refine gl_v rfl (o_move rfl) ?_
   refine gl_g rfl rfl (fun hc3 => ?_) (fun hc3 => ?_) rfl
   ·
    have hc3' := hc3
    replace hc3' := hs_ hc3'
    refine gl_v rfl (o_move rfl) ?_
    refine gl_gT rfl rfl hc3 ?_
    refine gl_c rfl (o_call rfl (span_spec isIn 66 (fun c => inner_spec c) (_) (by simp only [List.length_cons, List.length_drop] at *; omega)) pA) ?_
    rintro _ R ⟨_, ⟨rfl, rfl⟩, rfl⟩
    try simp only [List.cons_append, List.nil_append]
    refine gl_gT rfl rfl hc3 ?_
    refine gl_v rfl (o_move rfl) ?_
    refine gl_gT rfl rfl hc3 ?_
    refine gl_v rfl (o_lens rfl) ?_
    refine gl_gT rfl rfl hc3 ?_
    refine gl_v rfl (o_eql rfl rfl) ?_
    refine gl_v rfl (o_pickT hc3 rfl rfl) ?_
    refine gl_v rfl (o_assign rfl) ?_
    refine gl_nil ?_
    refine ge_then ?_
    refine g_ret ?_
    refine ret1 (.inl rfl) rfl rfl _ (⟨by first | rw [name_nolet (by assumption)] | rw [name_all (by assumption) (by simp only [List.length_cons] at *; omega)] | rw [name_long (by omega)] | (subst_vars; rfl), rfl⟩) (tO)
   ·
    have hc3' := hc3
    replace hc3' := hs_ hc3'
    simp only [putO]
    refine gl_gF rfl rfl hc3 rfl ?_
    refine gl_gF rfl rfl hc3 rfl ?_
    refine gl_gF rfl rfl hc3 rfl ?_
    refine gl_gF rfl rfl hc3 rfl ?_
    refine gl_v rfl (o_pickF hc3 rfl rfl) ?_
    refine gl_v rfl (o_assign rfl) ?_
    refine gl_nil ?_
    refine ge_then ?_
    refine g_ret ?_
    refine ret1 (.inl rfl) rfl rfl _ (⟨by first | rw [name_nolet (by assumption)] | rw [name_all (by assumption) (by simp only [List.length_cons] at *; omega)] | rw [name_long (by omega)] | (subst_vars; rfl), rfl⟩) (tO)
  ·
   have hc2' := hc2
   replace hc2' := hs_ hc2'
   simp only [putO]
   refine gl_gF rfl rfl hc2 rfl ?_
   refine gl_gF rfl rfl hc2 rfl ?_
   refine gl_v rfl (o_pickF hc2 rfl rfl) ?_
   refine gl_v rfl (o_move rfl) ?_
   refine gl_gF rfl rfl rfl rfl ?_
   refine gl_gF rfl rfl rfl rfl ?_
   refine gl_gF rfl rfl rfl rfl ?_
   refine gl_gF rfl rfl rfl rfl ?_
   refine gl_gF rfl rfl rfl rfl ?_
   refine gl_v rfl (o_pickF rfl rfl rfl) ?_
   refine gl_v rfl (o_assign rfl) ?_
   refine gl_nil ?_
   refine ge_then ?_
   refine g_ret ?_
   refine ret1 (.inl rfl) rfl rfl _ (⟨by first | rw [name_nolet (by assumption)] | rw [name_all (by assumption) (by simp only [List.length_cons] at *; omega)] | rw [name_long (by omega)] | (subst_vars; rfl), rfl⟩) (tO)
 ·
  have hc1' := hc1
  replace hc1' := hs_ hc1'
  simp only [putO]
  refine gl_gF rfl rfl hc1 rfl ?_
  refine gl_gF rfl rfl hc1 rfl ?_
  refine gl_v rfl (o_pickF hc1 rfl rfl) ?_
  refine gl_v rfl (o_move rfl) ?_
  refine gl_gF rfl rfl rfl rfl ?_
  refine gl_gF rfl rfl rfl rfl ?_
  refine gl_gF rfl rfl rfl rfl ?_
  refine gl_v rfl (o_pickF rfl rfl rfl) ?_
  refine gl_v rfl (o_move rfl) ?_
  refine gl_gF rfl rfl rfl rfl ?_
  refine gl_gF rfl rfl rfl rfl ?_
  refine gl_gF rfl rfl rfl rfl ?_
  refine gl_gF rfl rfl rfl rfl ?_
  refine gl_gF rfl rfl rfl rfl ?_
  refine gl_v rfl (o_pickF rfl rfl rfl) ?_
  refine gl_v rfl (o_assign rfl) ?_
  refine gl_nil ?_
  refine ge_then ?_
  refine g_ret ?_
  refine ret1 (.inl rfl) rfl rfl _ (⟨by first | rw [name_nolet (by assumption)] | rw [name_all (by assumption) (by simp only [List.length_cons] at *; omega)] | rw [name_long (by omega)] | (subst_vars; rfl), rfl⟩) (tO)

set_option maxRecDepth 8000 in
set_option maxHeartbeats 2000000 in
theorem Is_spec (c : UInt8) : FnS Tryd.prog 49 [B8 c] [] (fun u Bs => u = I64 (isc c) ∧ Bs = []) := by
 refine fn_body Tryd.func49 rfl rfl rfl ?_
 intro W0 R
 simp only [List.zipIdx_cons, List.zipIdx_nil, List.map_cons, List.map_nil, Nat.zero_add, Nat.reduceAdd, List.cons_append, List.nil_append]
 refine g_seq ?_
 refine g_region ?_
 refine gl_v rfl (o_assign rfl) ?_
 refine gl_nil ?_
 refine ge_then ?_
 refine g_seq ?_
 refine g_block ?_
 refine g_seq ?_
 refine g_region ?_
 refine gl_v rfl (o_move rfl) ?_
 refine gl_v rfl (o_eql rfl rfl) ?_
 refine gl_v rfl (o_move rfl) ?_
 refine gl_g rfl rfl (fun hc1 => ?_) (fun hc1 => ?_) rfl
 ·
  have hc1' := hc1
  replace hc1' := hs_ hc1'
  refine gl_v rfl (o_move rfl) ?_
  refine gl_gT rfl rfl hc1 ?_
  refine gl_v rfl (o_eql rfl rfl) ?_
  refine gl_v rfl (o_pickF hc1 rfl rfl) ?_
  refine gl_v rfl (o_move rfl) ?_
  refine gl_g rfl rfl (fun hc2 => ?_) (fun hc2 => ?_) rfl
  ·
   have hc2' := hc2
   replace hc2' := hs_ hc2'
   refine gl_v rfl (o_move rfl) ?_
   refine gl_gT rfl rfl hc2 ?_
   refine gl_v rfl (o_eql rfl rfl) ?_
   refine gl_v rfl (o_pickF hc2 rfl rfl) ?_
   refine gl_v rfl (o_move rfl) ?_
   refine gl_g rfl rfl (fun hc3 => ?_) (fun hc3 => ?_) rfl
   ·
    have hc3' := hc3
    replace hc3' := hs_ hc3'
    refine gl_v rfl (o_move rfl) ?_
    refine gl_gT rfl rfl hc3 ?_
    refine gl_v rfl (o_eql rfl rfl) ?_
    refine gl_v rfl (o_pickF hc3 rfl rfl) ?_
    refine gl_v rfl (o_assign rfl) ?_
    refine gl_nil ?_
    refine ge_then ?_
    refine g_cond rfl (fun hc4 => ?_) (fun hc4 => ?_)
    ·
     replace hc4 := hs_ hc4
     refine g_seq ?_
     refine g_region ?_
     refine gl_v rfl (o_assign rfl) ?_
     refine gl_nil ?_
     refine ge_then ?_
     refine g_ret ?_
     refine ge_block_ret ?_
     refine ge_then_ret ?_
     refine ret1 (.inl rfl) rfl rfl _ (⟨by (try simp only [Bool.not_false, Bool.not_true, decide_eq_true_eq, decide_eq_false_iff_not] at *); refine congrArg (Value.int .i64) ?_; unfold isc isBlank isLet isDig isSign; simp only [decide_eq_true_eq]; (repeat' split) <;> first | rfl | omega, rfl⟩) (tO)
    ·
     replace hc4 := hs_ hc4
     refine g_seq ?_
     refine g_region ?_
     refine gl_v rfl (o_move rfl) ?_
     refine gl_v rfl (o_geq rfl rfl) ?_
     refine gl_v rfl (o_move rfl) ?_
     refine gl_g rfl rfl (fun hc5 => ?_) (fun hc5 => ?_) rfl
     ·
      have hc5' := hc5
      replace hc5' := hs_ hc5'
      refine gl_v rfl (o_move rfl) ?_
      refine gl_gT rfl rfl hc5 ?_
      refine gl_v rfl (o_leq rfl rfl) ?_
      refine gl_v rfl (o_pickT hc5 rfl rfl) ?_
      refine gl_v rfl (o_assign rfl) ?_
      refine gl_nil ?_
      refine ge_then ?_
      refine g_cond rfl (fun hc6 => ?_) (fun hc6 => ?_)
      ·
       replace hc6 := hs_ hc6
       refine g_seq ?_
       refine g_region ?_
       refine gl_v rfl (o_assign rfl) ?_
       refine gl_nil ?_
       refine ge_then ?_
       refine g_ret ?_
       refine ge_block_ret ?_
       refine ge_then_ret ?_
       refine ret1 (.inl rfl) rfl rfl _ (⟨by (try simp only [Bool.not_false, Bool.not_true, decide_eq_true_eq, decide_eq_false_iff_not] at *); refine congrArg (Value.int .i64) ?_; unfold isc isBlank isLet isDig isSign; simp only [decide_eq_true_eq]; (repeat' split) <;> first | rfl | omega, rfl⟩) (tO)
      ·
       replace hc6 := hs_ hc6
       refine g_seq ?_
       refine g_region ?_
       refine gl_v rfl (o_move rfl) ?_
       refine gl_v rfl (o_geq rfl rfl) ?_
       refine gl_v rfl (o_move rfl) ?_
       refine gl_g rfl rfl (fun hc7 => ?_) (fun hc7 => ?_) rfl
       ·
        have hc7' := hc7
        replace hc7' := hs_ hc7'
        refine gl_v rfl (o_move rfl) ?_
        refine gl_gT rfl rfl hc7 ?_
        refine gl_v rfl (o_leq rfl rfl) ?_
        refine gl_v rfl (o_pickT hc7 rfl rfl) ?_
        refine gl_v rfl (o_assign rfl) ?_
        refine gl_nil ?_
        refine ge_then ?_
        refine g_cond rfl (fun hc8 => ?_) (fun hc8 => ?_)
        ·
         replace hc8 := hs_ hc8
         refine g_seq ?_
         refine g_region ?_
         refine gl_v rfl (o_assign rfl) ?_
         refine gl_nil ?_
         refine ge_then ?_
         refine g_ret ?_
         refine ge_block_ret ?_
         refine ge_then_ret ?_
         refine ret1 (.inl rfl) rfl rfl _ (⟨by (try simp only [Bool.not_false, Bool.not_true, decide_eq_true_eq, decide_eq_false_iff_not] at *); refine congrArg (Value.int .i64) ?_; unfold isc isBlank isLet isDig isSign; simp only [decide_eq_true_eq]; (repeat' split) <;> first | rfl | omega, rfl⟩) (tO)
        ·
         replace hc8 := hs_ hc8
         refine g_seq ?_
         refine g_region ?_
         refine gl_v rfl (o_move rfl) ?_
         refine gl_v rfl (o_eql rfl rfl) ?_
         refine gl_v rfl (o_assign rfl) ?_
         refine gl_nil ?_
         refine ge_then ?_
         refine g_cond rfl (fun hc9 => ?_) (fun hc9 => ?_)
         ·
          replace hc9 := hs_ hc9
          refine g_seq ?_
          refine g_region ?_
          refine gl_v rfl (o_assign rfl) ?_
          refine gl_nil ?_
          refine ge_then ?_
          refine g_ret ?_
          refine ge_block_ret ?_
          refine ge_then_ret ?_
          refine ret1 (.inl rfl) rfl rfl _ (⟨by (try simp only [Bool.not_false, Bool.not_true, decide_eq_true_eq, decide_eq_false_iff_not] at *); refine congrArg (Value.int .i64) ?_; unfold isc isBlank isLet isDig isSign; simp only [decide_eq_true_eq]; (repeat' split) <;> first | rfl | omega, rfl⟩) (tO)
         ·
          replace hc9 := hs_ hc9
          refine g_seq ?_
          refine g_region ?_
          refine gl_v rfl (o_move rfl) ?_
          refine gl_v rfl (o_eql rfl rfl) ?_
          refine gl_v rfl (o_move rfl) ?_
          refine gl_g rfl rfl (fun hc10 => ?_) (fun hc10 => ?_) rfl
          ·
           have hc10' := hc10
           replace hc10' := hs_ hc10'
           refine gl_v rfl (o_move rfl) ?_
           refine gl_gT rfl rfl hc10 ?_
           refine gl_v rfl (o_eql rfl rfl) ?_
           refine gl_v rfl (o_pickF hc10 rfl rfl) ?_
           refine gl_v rfl (o_move rfl) ?_
           refine gl_g rfl rfl (fun hc11 => ?_) (fun hc11 => ?_) rfl
           ·
            have hc11' := hc11
            replace hc11' := hs_ hc11'
            refine gl_v rfl (o_move rfl) ?_
            refine gl_gT rfl rfl hc11 ?_
            refine gl_v rfl (o_eql rfl rfl) ?_
            refine gl_v rfl (o_pickF hc11 rfl rfl) ?_
            refine gl_v rfl (o_assign rfl) ?_
            refine gl_nil ?_
            refine ge_then ?_
            refine g_cond rfl (fun hc12 => ?_) (fun hc12 => ?_)
            ·
             replace hc12 := hs_ hc12
             refine g_seq ?_
             refine g_region ?_
             refine gl_v rfl (o_assign rfl) ?_
             refine gl_nil ?_
             refine ge_then ?_
             refine g_ret ?_
             refine ge_block_ret ?_
             refine ge_then_ret ?_
             refine ret1 (.inl rfl) rfl rfl _ (⟨by (try simp only [Bool.not_false, Bool.not_true, decide_eq_true_eq, decide_eq_false_iff_not] at *); refine congrArg (Value.int .i64) ?_; unfold isc isBlank isLet isDig isSign; simp only [decide_eq_true_eq]; (repeat' split) <;> first | rfl | omega, rfl⟩) (tO)
            ·
             replace hc12 := hs_ hc12
             refine g_seq ?_
             refine g_region ?_
             refine gl_v rfl (o_move rfl) ?_
             refine gl_v rfl (o_eql rfl rfl) ?_
             refine gl_v rfl (o_assign rfl) ?_
             refine gl_nil ?_
             refine ge_then ?_
             refine g_cond rfl (fun hc13 => ?_) (fun hc13 => ?_)
             ·
              replace hc13 := hs_ hc13
              refine g_seq ?_
              refine g_region ?_
              refine gl_v rfl (o_assign rfl) ?_
              refine gl_nil ?_
              refine ge_then ?_
              refine g_ret ?_
              refine ge_block_ret ?_
              refine ge_then_ret ?_
              refine ret1 (.inl rfl) rfl rfl _ (⟨by (try simp only [Bool.not_false, Bool.not_true, decide_eq_true_eq, decide_eq_false_iff_not] at *); refine congrArg (Value.int .i64) ?_; unfold isc isBlank isLet isDig isSign; simp only [decide_eq_true_eq]; (repeat' split) <;> first | rfl | omega, rfl⟩) (tO)
             ·
              replace hc13 := hs_ hc13
              refine g_skip ?_
              refine ge_block ?_
              refine ge_then ?_
              refine g_seq ?_
              refine g_region ?_
              refine gl_v rfl (o_assign rfl) ?_
              refine gl_nil ?_
              refine ge_then ?_
              refine g_ret ?_
              refine ret1 (.inl rfl) rfl rfl _ (⟨by (try simp only [Bool.not_false, Bool.not_true, decide_eq_true_eq, decide_eq_false_iff_not] at *); refine congrArg (Value.int .i64) ?_; unfold isc isBlank isLet isDig isSign; simp only [decide_eq_true_eq]; (repeat' split) <;> first | rfl | omega, rfl⟩) (tO)
           ·
            have hc11' := hc11
            replace hc11' := hs_ hc11'
            simp only [putO]
            refine gl_gF rfl rfl hc11 rfl ?_
            refine gl_v rfl (o_pickT hc11 rfl rfl) ?_
            refine gl_v rfl (o_assign rfl) ?_
            refine gl_nil ?_
            refine ge_then ?_
            refine g_cond_true rfl ?_
            refine g_seq ?_
            refine g_region ?_
            refine gl_v rfl (o_assign rfl) ?_
            refine gl_nil ?_
            refine ge_then ?_
            refine g_ret ?_
            refine ge_block_ret ?_
            refine ge_then_ret ?_
            refine ret1 (.inl rfl) rfl rfl _ (⟨by (try simp only [Bool.not_false, Bool.not_true, decide_eq_true_eq, decide_eq_false_iff_not] at *); refine congrArg (Value.int .i64) ?_; unfold isc isBlank isLet isDig isSign; simp only [decide_eq_true_eq]; (repeat' split) <;> first | rfl | omega, rfl⟩) (tO)
          ·
           have hc10' := hc10
           replace hc10' := hs_ hc10'
           simp only [putO]
           refine gl_gF rfl rfl hc10 rfl ?_
           refine gl_v rfl (o_pickT hc10 rfl rfl) ?_
           refine gl_v rfl (o_move rfl) ?_
           refine gl_gF rfl rfl rfl rfl ?_
           refine gl_gF rfl rfl rfl rfl ?_
           refine gl_v rfl (o_pickT rfl rfl rfl) ?_
           refine gl_v rfl (o_assign rfl) ?_
           refine gl_nil ?_
           refine ge_then ?_
           refine g_cond_true rfl ?_
           refine g_seq ?_
           refine g_region ?_
           refine gl_v rfl (o_assign rfl) ?_
           refine gl_nil ?_
           refine ge_then ?_
           refine g_ret ?_
           refine ge_block_ret ?_
           refine ge_then_ret ?_
           refine ret1 (.inl rfl) rfl rfl _ (⟨by (try simp only [Bool.not_false, Bool.not_true, decide_eq_true_eq, decide_eq_false_iff_not] at *); refine congrArg (Value.int .i64) ?_; unfold isc isBlank isLet isDig isSign; simp only [decide_eq_true_eq]; (repeat' split) <;> first | rfl | omega, rfl⟩) (tO)
       ·
        have hc7' := hc7
        replace hc7' := hs_ hc7'
        simp only [putO]
        refine gl_gF rfl rfl hc7 rfl ?_
        refine gl_v rfl (o_pickF hc7 rfl rfl) ?_
        refine gl_v rfl (o_assign rfl) ?_
        refine gl_nil ?_
        refine ge_then ?_
        refine g_cond_false rfl ?_
        refine g_seq ?_
        refine g_region ?_
        refine gl_v rfl (o_move rfl) ?_
        refine gl_v rfl (o_eql rfl rfl) ?_
        refine gl_v rfl (o_assign rfl) ?_
        refine gl_nil ?_
        refine ge_then ?_
        refine g_cond rfl (fun hc14 => ?_) (fun hc14 => ?_)
        ·
         replace hc14 := hs_ hc14
         refine g_seq ?_
         refine g_region ?_
         refine gl_v rfl (o_assign rfl) ?_
         refine gl_nil ?_
         refine ge_then ?_
         refine g_ret ?_
         refine ge_block_ret ?_
         refine ge_then_ret ?_
         refine ret1 (.inl rfl) rfl rfl _ (⟨by (try simp only [Bool.not_false, Bool.not_true, decide_eq_true_eq, decide_eq_false_iff_not] at *); refine congrArg (Value.int .i64) ?_; unfold isc isBlank isLet isDig isSign; simp only [decide_eq_true_eq]; (repeat' split) <;> first | rfl | omega, rfl⟩) (tO)
        ·
         replace hc14 := hs_ hc14
         refine g_seq ?_
         refine g_region ?_
         refine gl_v rfl (o_move rfl) ?_
         refine gl_v rfl (o_eql rfl rfl) ?_
         refine gl_v rfl (o_move rfl) ?_
         refine gl_g rfl rfl (fun hc15 => ?_) (fun hc15 => ?_) rfl
         ·
          have hc15' := hc15
          replace hc15' := hs_ hc15'
          refine gl_v rfl (o_move rfl) ?_
          refine gl_gT rfl rfl hc15 ?_
          refine gl_v rfl (o_eql rfl rfl) ?_
          refine gl_v rfl (o_pickF hc15 rfl rfl) ?_
          refine gl_v rfl (o_move rfl) ?_
          refine gl_g rfl rfl (fun hc16 => ?_) (fun hc16 => ?_) rfl
          ·
           have hc16' := hc16
           replace hc16' := hs_ hc16'
           refine gl_v rfl (o_move rfl) ?_
           refine gl_gT rfl rfl hc16 ?_
           refine gl_v rfl (o_eql rfl rfl) ?_
           refine gl_v rfl (o_pickF hc16 rfl rfl) ?_
           refine gl_v rfl (o_assign rfl) ?_
           refine gl_nil ?_
           refine ge_then ?_
           refine g_cond rfl (fun hc17 => ?_) (fun hc17 => ?_)
           ·
            replace hc17 := hs_ hc17
            refine g_seq ?_
            refine g_region ?_
            refine gl_v rfl (o_assign rfl) ?_
            refine gl_nil ?_
            refine ge_then ?_
            refine g_ret ?_
            refine ge_block_ret ?_
            refine ge_then_ret ?_
            refine ret1 (.inl rfl) rfl rfl _ (⟨by (try simp only [Bool.not_false, Bool.not_true, decide_eq_true_eq, decide_eq_false_iff_not] at *); refine congrArg (Value.int .i64) ?_; unfold isc isBlank isLet isDig isSign; simp only [decide_eq_true_eq]; (repeat' split) <;> first | rfl | omega, rfl⟩) (tO)
           ·
            replace hc17 := hs_ hc17
            refine g_seq ?_
            refine g_region ?_
            refine gl_v rfl (o_move rfl) ?_
            refine gl_v rfl (o_eql rfl rfl) ?_
            refine gl_v rfl (o_assign rfl) ?_
            refine gl_nil ?_
            refine ge_then ?_
            refine g_cond rfl (fun hc18 => ?_) (fun hc18 => ?_)
            ·
             replace hc18 := hs_ hc18
             refine g_seq ?_
             refine g_region ?_
             refine gl_v rfl (o_assign rfl) ?_
             refine gl_nil ?_
             refine ge_then ?_
             refine g_ret ?_
             refine ge_block_ret ?_
             refine ge_then_ret ?_
             refine ret1 (.inl rfl) rfl rfl _ (⟨by (try simp only [Bool.not_false, Bool.not_true, decide_eq_true_eq, decide_eq_false_iff_not] at *); refine congrArg (Value.int .i64) ?_; unfold isc isBlank isLet isDig isSign; simp only [decide_eq_true_eq]; (repeat' split) <;> first | rfl | omega, rfl⟩) (tO)
            ·
             replace hc18 := hs_ hc18
             refine g_skip ?_
             refine ge_block ?_
             refine ge_then ?_
             refine g_seq ?_
             refine g_region ?_
             refine gl_v rfl (o_assign rfl) ?_
             refine gl_nil ?_
             refine ge_then ?_
             refine g_ret ?_
             refine ret1 (.inl rfl) rfl rfl _ (⟨by (try simp only [Bool.not_false, Bool.not_true, decide_eq_true_eq, decide_eq_false_iff_not] at *); refine congrArg (Value.int .i64) ?_; unfold isc isBlank isLet isDig isSign; simp only [decide_eq_true_eq]; (repeat' split) <;> first | rfl | omega, rfl⟩) (tO)
          ·
           have hc16' := hc16
           replace hc16' := hs_ hc16'
           simp only [putO]
           refine gl_gF rfl rfl hc16 rfl ?_
           refine gl_v rfl (o_pickT hc16 rfl rfl) ?_
           refine gl_v rfl (o_assign rfl) ?_
           refine gl_nil ?_
           refine ge_then ?_
           refine g_cond_true rfl ?_
           refine g_seq ?_
           refine g_region ?_
           refine gl_v rfl (o_assign rfl) ?_
           refine gl_nil ?_
           refine ge_then ?_
           refine g_ret ?_
           refine ge_block_ret ?_
           refine ge_then_ret ?_
           refine ret1 (.inl rfl) rfl rfl _ (⟨by (try simp only [Bool.not_false, Bool.not_true, decide_eq_true_eq, decide_eq_false_iff_not] at *); refine congrArg (Value.int .i64) ?_; unfold isc isBlank isLet isDig isSign; simp only [decide_eq_true_eq]; (repeat' split) <;> first | rfl | omega, rfl⟩) (tO)
         ·
          have hc15' := hc15
          replace hc15' := hs_ hc15'
          simp only [putO]
          refine gl_gF rfl rfl hc15 rfl ?_
          refine gl_v rfl (o_pickT hc15 rfl rfl) ?_
          refine gl_v rfl (o_move rfl) ?_
          refine gl_gF rfl rfl rfl rfl ?_
          refine gl_gF rfl rfl rfl rfl ?_
          refine gl_v rfl (o_pickT rfl rfl rfl) ?_
          refine gl_v rfl (o_assign rfl) ?_
          refine gl_nil ?_
          refine ge_then ?_
          refine g_cond_true rfl ?_
          refine g_seq ?_
          refine g_region ?_
          refine gl_v rfl (o_assign rfl) ?_
          refine gl_nil ?_
          refine ge_then ?_
          refine g_ret ?_
          refine ge_block_ret ?_
          refine ge_then_ret ?_
          refine ret1 (.inl rfl) rfl rfl _ (⟨by (try simp only [Bool.not_false, Bool.not_true, decide_eq_true_eq, decide_eq_false_iff_not] at *); refine congrArg (Value.int .i64) ?_; unfold isc isBlank isLet isDig isSign; simp only [decide_eq_true_eq]; (repeat' split) <;> first | rfl | omega, rfl⟩) (tO)
     ·
      have hc5' := hc5
      replace hc5' := hs_ hc5'
      simp only [putO]
      refine gl_gF rfl rfl hc5 rfl ?_
      refine gl_v rfl (o_pickF hc5 rfl rfl) ?_
      refine gl_v rfl (o_assign rfl) ?_
      refine gl_nil ?_
      refine ge_then ?_
      refine g_cond_false rfl ?_
      refine g_seq ?_
      refine g_region ?_
      refine gl_v rfl (o_move rfl) ?_
      refine gl_v rfl (o_geq rfl rfl) ?_
      refine gl_v rfl (o_move rfl) ?_
      refine gl_g rfl rfl (fun hc19 => ?_) (fun hc19 => ?_) rfl
      ·
       have hc19' := hc19
       replace hc19' := hs_ hc19'
       refine gl_v rfl (o_move rfl) ?_
       refine gl_gT rfl rfl hc19 ?_
       refine gl_v rfl (o_leq rfl rfl) ?_
       refine gl_v rfl (o_pickT hc19 rfl rfl) ?_
       refine gl_v rfl (o_assign rfl) ?_
       refine gl_nil ?_
       refine ge_then ?_
       refine g_cond rfl (fun hc20 => ?_) (fun hc20 => ?_)
       ·
        replace hc20 := hs_ hc20
        refine g_seq ?_
        refine g_region ?_
        refine gl_v rfl (o_assign rfl) ?_
        refine gl_nil ?_
        refine ge_then ?_
        refine g_ret ?_
        refine ge_block_ret ?_
        refine ge_then_ret ?_
        refine ret1 (.inl rfl) rfl rfl _ (⟨by (try simp only [Bool.not_false, Bool.not_true, decide_eq_true_eq, decide_eq_false_iff_not] at *); refine congrArg (Value.int .i64) ?_; unfold isc isBlank isLet isDig isSign; simp only [decide_eq_true_eq]; (repeat' split) <;> first | rfl | omega, rfl⟩) (tO)
       ·
        replace hc20 := hs_ hc20
        refine g_seq ?_
        refine g_region ?_
        refine gl_v rfl (o_move rfl) ?_
        refine gl_v rfl (o_eql rfl rfl) ?_
        refine gl_v rfl (o_assign rfl) ?_
        refine gl_nil ?_
        refine ge_then ?_
        refine g_cond rfl (fun hc21 => ?_) (fun hc21 => ?_)
        ·
         replace hc21 := hs_ hc21
         refine g_seq ?_
         refine g_region ?_
         refine gl_v rfl (o_assign rfl) ?_
         refine gl_nil ?_
         refine ge_then ?_
         refine g_ret ?_
         refine ge_block_ret ?_
         refine ge_then_ret ?_
         refine ret1 (.inl rfl) rfl rfl _ (⟨by (try simp only [Bool.not_false, Bool.not_true, decide_eq_true_eq, decide_eq_false_iff_not] at *); refine congrArg (Value.int .i64) ?_; unfold isc isBlank isLet isDig isSign; simp only [decide_eq_true_eq]; (repeat' split) <;> first | rfl | omega, rfl⟩) (tO)
        ·
         replace hc21 := hs_ hc21
         refine g_seq ?_
         refine g_region ?_
         refine gl_v rfl (o_move rfl) ?_
         refine gl_v rfl (o_eql rfl rfl) ?_
         refine gl_v rfl (o_move rfl) ?_
         refine gl_g rfl rfl (fun hc22 => ?_) (fun hc22 => ?_) rfl
         ·
          have hc22' := hc22
          replace hc22' := hs_ hc22'
          refine gl_v rfl (o_move rfl) ?_
          refine gl_gT rfl rfl hc22 ?_
          refine gl_v rfl (o_eql rfl rfl) ?_
          refine gl_v rfl (o_pickF hc22 rfl rfl) ?_
          refine gl_v rfl (o_move rfl) ?_
          refine gl_g rfl rfl (fun hc23 => ?_) (fun hc23 => ?_) rfl
          ·
           have hc23' := hc23
           replace hc23' := hs_ hc23'
           refine gl_v rfl (o_move rfl) ?_
           refine gl_gT rfl rfl hc23 ?_
           refine gl_v rfl (o_eql rfl rfl) ?_
           refine gl_v rfl (o_pickF hc23 rfl rfl) ?_
           refine gl_v rfl (o_assign rfl) ?_
           refine gl_nil ?_
           refine ge_then ?_
           refine g_cond rfl (fun hc24 => ?_) (fun hc24 => ?_)
           ·
            replace hc24 := hs_ hc24
            refine g_seq ?_
            refine g_region ?_
            refine gl_v rfl (o_assign rfl) ?_
            refine gl_nil ?_
            refine ge_then ?_
            refine g_ret ?_
            refine ge_block_ret ?_
            refine ge_then_ret ?_
            refine ret1 (.inl rfl) rfl rfl _ (⟨by (try simp only [Bool.not_false, Bool.not_true, decide_eq_true_eq, decide_eq_false_iff_not] at *); refine congrArg (Value.int .i64) ?_; unfold isc isBlank isLet isDig isSign; simp only [decide_eq_true_eq]; (repeat' split) <;> first | rfl | omega, rfl⟩) (tO)
           ·
            replace hc24 := hs_ hc24
            refine g_seq ?_
            refine g_region ?_
            refine gl_v rfl (o_move rfl) ?_
            refine gl_v rfl (o_eql rfl rfl) ?_
            refine gl_v rfl (o_assign rfl) ?_
            refine gl_nil ?_
            refine ge_then ?_
            refine g_cond rfl (fun hc25 => ?_) (fun hc25 => ?_)
            ·
             replace hc25 := hs_ hc25
             refine g_seq ?_
             refine g_region ?_
             refine gl_v rfl (o_assign rfl) ?_
             refine gl_nil ?_
             refine ge_then ?_
             refine g_ret ?_
             refine ge_block_ret ?_
             refine ge_then_ret ?_
             refine ret1 (.inl rfl) rfl rfl _ (⟨by (try simp only [Bool.not_false, Bool.not_true, decide_eq_true_eq, decide_eq_false_iff_not] at *); refine congrArg (Value.int .i64) ?_; unfold isc isBlank isLet isDig isSign; simp only [decide_eq_true_eq]; (repeat' split) <;> first | rfl | omega, rfl⟩) (tO)
            ·
             replace hc25 := hs_ hc25
             refine g_skip ?_
             refine ge_block ?_
             refine ge_then ?_
             refine g_seq ?_
             refine g_region ?_
             refine gl_v rfl (o_assign rfl) ?_
             refine gl_nil ?_
             refine ge_then ?_
             refine g_ret ?_
             refine ret1 (.inl rfl) rfl rfl _ (⟨by (try simp only [Bool.not_false, Bool.not_true, decide_eq_true_eq, decide_eq_false_iff_not] at *); refine congrArg (Value.int .i64) ?_; unfold isc isBlank isLet isDig isSign; simp only [decide_eq_true_eq]; (repeat' split) <;> first | rfl | omega, rfl⟩) (tO)
          ·
           have hc23' := hc23
           replace hc23' := hs_ hc23'
           simp only [putO]
           refine gl_gF rfl rfl hc23 rfl ?_
           refine gl_v rfl (o_pickT hc23 rfl rfl) ?_
           refine gl_v rfl (o_assign rfl) ?_
           refine gl_nil ?_
           refine ge_then ?_
           refine g_cond_true rfl ?_
           refine g_seq ?_
           refine g_region ?_
           refine gl_v rfl (o_assign rfl) ?_
           refine gl_nil ?_
           refine ge_then ?_
           refine g_ret ?_
           refine ge_block_ret ?_
           refine ge_then_ret ?_
           refine ret1 (.inl rfl) rfl rfl _ (⟨by (try simp only [Bool.not_false, Bool.not_true, decide_eq_true_eq, decide_eq_false_iff_not] at *); refine congrArg (Value.int .i64) ?_; unfold isc isBlank isLet isDig isSign; simp only [decide_eq_true_eq]; (repeat' split) <;> first | rfl | omega, rfl⟩) (tO)
         ·
          have hc22' := hc22
          replace hc22' := hs_ hc22'
          simp only [putO]
          refine gl_gF rfl rfl hc22 rfl ?_
          refine gl_v rfl (o_pickT hc22 rfl rfl) ?_
          refine gl_v rfl (o_move rfl) ?_
          refine gl_gF rfl rfl rfl rfl ?_
          refine gl_gF rfl rfl rfl rfl ?_
          refine gl_v rfl (o_pickT rfl rfl rfl) ?_
          refine gl_v rfl (o_assign rfl) ?_
          refine gl_nil ?_
          refine ge_then ?_
          refine g_cond_true rfl ?_
          refine g_seq ?_
          refine g_region ?_
          refine gl_v rfl (o_assign rfl) ?_
          refine gl_nil ?_
          refine ge_then ?_
          refine g_ret ?_
          refine ge_block_ret ?_
          refine ge_then_ret ?_
          refine ret1 (.inl rfl) rfl rfl _ (⟨by (try simp only [Bool.not_false, Bool.not_true, decide_eq_true_eq, decide_eq_false_iff_not] at *); refine congrArg (Value.int .i64) ?_; unfold isc isBlank isLet isDig isSign; simp only [decide_eq_true_eq]; (repeat' split) <;> first | rfl | omega, rfl⟩) (tO)
      ·
       have hc19' := hc19
       replace hc19' := hs_ hc19'
       simp only [putO]
       refine gl_gF rfl rfl hc19 rfl ?_
       refine gl_v rfl (o_pickF hc19 rfl rfl) ?_
       refine gl_v rfl (o_assign rfl) ?_
       refine gl_nil ?_
       refine ge_then ?_
       refine g_cond_false rfl ?_
       refine g_seq ?_
       refine g_region ?_
       refine gl_v rfl (o_move rfl) ?_
       refine gl_v rfl (o_eql rfl rfl) ?_
       refine gl_v rfl (o_assign rfl) ?_
       refine gl_nil ?_
       refine ge_then ?_
       refine g_cond rfl (fun hc26 => ?_) (fun hc26 => ?_)
       ·
        replace hc26 := hs_ hc26
        refine g_seq ?_
        refine g_region ?_
        refine gl_v rfl (o_assign rfl) ?_
        refine gl_nil ?_
        refine ge_then ?_
        refine g_ret ?_
        refine ge_block_ret ?_
        refine ge_then_ret ?_
        refine ret1 (.inl rfl) rfl rfl _ (⟨by (try simp only [Bool.not_false, Bool.not_true, decide_eq_true_eq, decide_eq_false_iff_not] at *); refine congrArg (Value.int .i64) ?_; unfold isc isBlank isLet isDig isSign; simp only [decide_eq_true_eq]; (repeat' split) <;> first | rfl | omega, rfl⟩) (tO)
       ·
        replace hc26 := hs_ hc26
        refine g_seq ?_
        refine g_region ?_
        refine gl_v rfl (o_move rfl) ?_
        refine gl_v rfl (o_eql rfl rfl) ?_
        refine gl_v rfl (o_move rfl) ?_
        refine gl_g rfl rfl (fun hc27 => ?_) (fun hc27 => ?_) rfl
        ·
         have hc27' := hc27
         replace hc27' := hs_ hc27'
         refine gl_v rfl (o_move rfl) ?_
         refine gl_gT rfl rfl hc27 ?_
         refine gl_v rfl (o_eql rfl rfl) ?_
         refine gl_v rfl (o_pickF hc27 rfl rfl) ?_
         refine gl_v rfl (o_move rfl) ?_
         refine gl_g rfl rfl (fun hc28 => ?_) (fun hc28 => ?_) rfl
         ·
          have hc28' := hc28
          replace hc28' := hs_ hc28'
          refine gl_v rfl (o_move rfl) ?_
          refine gl_gT rfl rfl hc28 ?_
          refine gl_v rfl (o_eql rfl rfl) ?_
          refine gl_v rfl (o_pickF hc28 rfl rfl) ?_
          refine gl_v rfl (o_assign rfl) ?_
          refine gl_nil ?_
          refine ge_then ?_
          refine g_cond rfl (fun hc29 => ?_) (fun hc29 => ?_)
          ·
           replace hc29 := hs_ hc29
           refine g_seq ?_
           refine g_region ?_
           refine gl_v rfl (o_assign rfl) ?_
           refine gl_nil ?_
           refine ge_then ?_
           refine g_ret ?_
           refine ge_block_ret ?_
           refine ge_then_ret ?_
           refine ret1 (.inl rfl) rfl rfl _ (⟨by (try simp only [Bool.not_false, Bool.not_true, decide_eq_true_eq, decide_eq_false_iff_not] at *); refine congrArg (Value.int .i64) ?_; unfold isc isBlank isLet isDig isSign; simp only [decide_eq_true_eq]; (repeat' split) <;> first | rfl | omega, rfl⟩) (tO)
          ·
           replace hc29 := hs_ hc29
           refine g_seq ?_
           refine g_region ?_
           refine gl_v rfl (o_move rfl) ?_
           refine gl_v rfl (o_eql rfl rfl) ?_
           refine gl_v rfl (o_assign rfl) ?_
           refine gl_nil ?_
           refine ge_then ?_
           refine g_cond rfl (fun hc30 => ?_) (fun hc30 => ?_)
           ·
            replace hc30 := hs_ hc30
            refine g_seq ?_
            refine g_region ?_
            refine gl_v rfl (o_assign rfl) ?_
            refine gl_nil ?_
            refine ge_then ?_
            refine g_ret ?_
            refine ge_block_ret ?_
            refine ge_then_ret ?_
            refine ret1 (.inl rfl) rfl rfl _ (⟨by (try simp only [Bool.not_false, Bool.not_true, decide_eq_true_eq, decide_eq_false_iff_not] at *); refine congrArg (Value.int .i64) ?_; unfold isc isBlank isLet isDig isSign; simp only [decide_eq_true_eq]; (repeat' split) <;> first | rfl | omega, rfl⟩) (tO)
           ·
            replace hc30 := hs_ hc30
            refine g_skip ?_
            refine ge_block ?_
            refine ge_then ?_
            refine g_seq ?_
            refine g_region ?_
            refine gl_v rfl (o_assign rfl) ?_
            refine gl_nil ?_
            refine ge_then ?_
            refine g_ret ?_
            refine ret1 (.inl rfl) rfl rfl _ (⟨by (try simp only [Bool.not_false, Bool.not_true, decide_eq_true_eq, decide_eq_false_iff_not] at *); refine congrArg (Value.int .i64) ?_; unfold isc isBlank isLet isDig isSign; simp only [decide_eq_true_eq]; (repeat' split) <;> first | rfl | omega, rfl⟩) (tO)
         ·
          have hc28' := hc28
          replace hc28' := hs_ hc28'
          simp only [putO]
          refine gl_gF rfl rfl hc28 rfl ?_
          refine gl_v rfl (o_pickT hc28 rfl rfl) ?_
          refine gl_v rfl (o_assign rfl) ?_
          refine gl_nil ?_
          refine ge_then ?_
          refine g_cond_true rfl ?_
          refine g_seq ?_
          refine g_region ?_
          refine gl_v rfl (o_assign rfl) ?_
          refine gl_nil ?_
          refine ge_then ?_
          refine g_ret ?_
          refine ge_block_ret ?_
          refine ge_then_ret ?_
          refine ret1 (.inl rfl) rfl rfl _ (⟨by (try simp only [Bool.not_false, Bool.not_true, decide_eq_true_eq, decide_eq_false_iff_not] at *); refine congrArg (Value.int .i64) ?_; unfold isc isBlank isLet isDig isSign; simp only [decide_eq_true_eq]; (repeat' split) <;> first | rfl | omega, rfl⟩) (tO)
        ·
         have hc27' := hc27
         replace hc27' := hs_ hc27'
         simp only [putO]
         refine gl_gF rfl rfl hc27 rfl ?_
         refine gl_v rfl (o_pickT hc27 rfl rfl) ?_
         refine gl_v rfl (o_move rfl) ?_
         refine gl_gF rfl rfl rfl rfl ?_
         refine gl_gF rfl rfl rfl rfl ?_
         refine gl_v rfl (o_pickT rfl rfl rfl) ?_
         refine gl_v rfl (o_assign rfl) ?_
         refine gl_nil ?_
         refine ge_then ?_
         refine g_cond_true rfl ?_
         refine g_seq ?_
         refine g_region ?_
         refine gl_v rfl (o_assign rfl) ?_
         refine gl_nil ?_
         refine ge_then ?_
         refine g_ret ?_
         refine ge_block_ret ?_
         refine ge_then_ret ?_
         refine ret1 (.inl rfl) rfl rfl _ (⟨by (try simp only [Bool.not_false, Bool.not_true, decide_eq_true_eq, decide_eq_false_iff_not] at *); refine congrArg (Value.int .i64) ?_; unfold isc isBlank isLet isDig isSign; simp only [decide_eq_true_eq]; (repeat' split) <;> first | rfl | omega, rfl⟩) (tO)
   ·
    have hc3' := hc3
    replace hc3' := hs_ hc3'
    simp only [putO]
    refine gl_gF rfl rfl hc3 rfl ?_
    refine gl_v rfl (o_pickT hc3 rfl rfl) ?_
    refine gl_v rfl (o_assign rfl) ?_
    refine gl_nil ?_
    refine ge_then ?_
    refine g_cond_true rfl ?_
    refine g_seq ?_
    refine g_region ?_
    refine gl_v rfl (o_assign rfl) ?_
    refine gl_nil ?_
    refine ge_then ?_
    refine g_ret ?_
    refine ge_block_ret ?_
    refine ge_then_ret ?_
    refine ret1 (.inl rfl) rfl rfl _ (⟨by (try simp only [Bool.not_false, Bool.not_true, decide_eq_true_eq, decide_eq_false_iff_not] at *); refine congrArg (Value.int .i64) ?_; unfold isc isBlank isLet isDig isSign; simp only [decide_eq_true_eq]; (repeat' split) <;> first | rfl | omega, rfl⟩) (tO)
  ·
   have hc2' := hc2
   replace hc2' := hs_ hc2'
   simp only [putO]
   refine gl_gF rfl rfl hc2 rfl ?_
   refine gl_v rfl (o_pickT hc2 rfl rfl) ?_
   refine gl_v rfl (o_move rfl) ?_
   refine gl_gF rfl rfl rfl rfl ?_
   refine gl_gF rfl rfl rfl rfl ?_
   refine gl_v rfl (o_pickT rfl rfl rfl) ?_
   refine gl_v rfl (o_assign rfl) ?_
   refine gl_nil ?_
   refine ge_then ?_
   refine g_cond_true rfl ?_
   refine g_seq ?_
   refine g_region ?_
   refine gl_v rfl (o_assign rfl) ?_
   refine gl_nil ?_
   refine ge_then ?_
   refine g_ret ?_
   refine ge_block_ret ?_
   refine ge_then_ret ?_
   refine ret1 (.inl rfl) rfl rfl _ (⟨by (try simp only [Bool.not_false, Bool.not_true, decide_eq_true_eq, decide_eq_false_iff_not] at *); refine congrArg (Value.int .i64) ?_; unfold isc isBlank isLet isDig isSign; simp only [decide_eq_true_eq]; (repeat' split) <;> first | rfl | omega, rfl⟩) (tO)
 ·
  have hc1' := hc1
  replace hc1' := hs_ hc1'
  simp only [putO]
  refine gl_gF rfl rfl hc1 rfl ?_
  refine gl_v rfl (o_pickT hc1 rfl rfl) ?_
  refine gl_v rfl (o_move rfl) ?_
  refine gl_gF rfl rfl rfl rfl ?_
  refine gl_gF rfl rfl rfl rfl ?_
  refine gl_v rfl (o_pickT rfl rfl rfl) ?_
  refine gl_v rfl (o_move rfl) ?_
  refine gl_gF rfl rfl rfl rfl ?_
  refine gl_gF rfl rfl rfl rfl ?_
  refine gl_v rfl (o_pickT rfl rfl rfl) ?_
  refine gl_v rfl (o_assign rfl) ?_
  refine gl_nil ?_
  refine ge_then ?_
  refine g_cond_true rfl ?_
  refine g_seq ?_
  refine g_region ?_
  refine gl_v rfl (o_assign rfl) ?_
  refine gl_nil ?_
  refine ge_then ?_
  refine g_ret ?_
  refine ge_block_ret ?_
  refine ge_then_ret ?_
  refine ret1 (.inl rfl) rfl rfl _ (⟨by (try simp only [Bool.not_false, Bool.not_true, decide_eq_true_eq, decide_eq_false_iff_not] at *); refine congrArg (Value.int .i64) ?_; unfold isc isBlank isLet isDig isSign; simp only [decide_eq_true_eq]; (repeat' split) <;> first | rfl | omega, rfl⟩) (tO)

set_option maxRecDepth 8000 in
set_option maxHeartbeats 400000 in
theorem RName_spec (l : By) (hl : l.length ≤ 9223372036854775807) : FnS Tryd.prog 24 [S l] [] (fun u Bs => u = .bool (isName l) ∧ Bs = []) := by
 refine fn_body Tryd.func24 rfl rfl rfl ?_
 intro W0 R
 simp only [List.zipIdx_cons, List.zipIdx_nil, List.map_cons, List.map_nil, Nat.zero_add, Nat.reduceAdd, List.cons_append, List.nil_append]
 refine g_seq ?_
 refine g_region ?_
 refine gl_v rfl (o_assign rfl) ?_
 refine gl_nil ?_
 refine ge_then ?_
 refine g_seq ?_
 refine g_seq ?_
 refine g_region ?_
 refine gl_v rfl (o_move rfl) ?_
 refine gl_v rfl (o_lens rfl) ?_
 refine gl_v rfl (o_lss rfl rfl) ?_
 refine gl_v rfl (o_move rfl) ?_
 refine gl_g rfl rfl (fun hc1 => ?_) (fun hc1 => ?_) rfl
 ·
  have hc1' := hc1
  replace hc1' := hs_ hc1'
  refine gl_v rfl (o_move rfl) ?_
  refine gl_gT rfl rfl hc1 ?_
  refine gl_v rfl (o_lens rfl) ?_
  refine gl_gT rfl rfl hc1 ?_
  refine gl_v rfl (o_gtr rfl rfl) ?_
  refine gl_v rfl (o_pickF hc1 rfl rfl) ?_
  refine gl_v rfl (o_move rfl) ?_
  refine gl_g rfl rfl (fun hc2 => ?_) (fun hc2 => ?_) rfl
  ·
   have hc2' := hc2
   replace hc2' := hs_ hc2'
   refine gl_v rfl (o_move rfl) ?_
   refine gl_gT rfl rfl hc2 ?_
   obtain ⟨c, r, rfl⟩ : ∃ c r, l = c :: r := by
     cases l with
     | nil => simp at *
     | cons c r => exact ⟨c, r, rfl⟩
   refine gl_v rfl (o_index_string rfl rfl (rfl)) ?_
   refine gl_gT rfl rfl hc2 ?_
   refine gl_c rfl (o_call rfl (Is_spec c) pA) ?_
   rintro _ R ⟨_, ⟨rfl, rfl⟩, rfl⟩
   try simp only [List.cons_append, List.nil_append]
   refine gl_gT rfl rfl hc2 ?_
   refine gl_v rfl (o_neq rfl rfl) ?_
   refine gl_v rfl (o_pickF hc2 rfl rfl) ?_
   refine gl_nil ?_
   refine ge_then ?_
   refine g_cond rfl (fun hc3 => ?_) (fun hc3 => ?_)
   ·
    replace hc3 := hs_ hc3
    refine g_seq ?_
    refine g_region ?_
    refine gl_v rfl (o_assign rfl) ?_
    refine gl_nil ?_
    refine ge_then ?_
    refine g_ret ?_
    refine ge_then_ret ?_
    refine ret1 (.inl rfl) rfl rfl _ (⟨by first | (rw [name_all hlc h16, hs, spn_no hg (in_f (by omega))]; refine bool_eq ?_; simp only [decide_eq_true_eq, Bool.false_eq_true, false_iff]; omega) | (rw [name_all hlc h16, hs, spn_end (by omega)]; refine bool_eq ?_; simp only [decide_eq_true_eq, true_iff]; omega) | rw [name_long (by omega)] | rw [name_nolet (let_f (by omega))] | (have : l = [] := List.eq_nil_of_length_eq_zero (by omega); subst this; rfl), rfl⟩) (tO)
   ·
    replace hc3 := hs_ hc3
    refine g_skip ?_
    refine ge_then ?_
    refine g_seq ?_
    refine g_seq ?_
    obtain ⟨hlc, h16⟩ : isc c = 2 ∧ (c :: r).length ≤ 16 := by constructor <;> omega
    replace hlc := (isc_let c).1 hlc
    refine g_region ?_
    refine gl_v rfl (o_assign rfl) ?_
    refine gl_nil ?_
    refine ge_then ?_
    refine g_block ?_
    refine g_loop (ι := Nat) (fun x => x ≤ (c :: r).length ∧ spn isIn (c :: r) = x + spn isIn ((c :: r).drop x)) (fun x => [(3, I64 x), (0, S (c :: r))]) (fun _ => R) (fun x => (c :: r).length - x) 0 (⟨Nat.zero_le _, by rw [List.drop_zero, Nat.zero_add]⟩) (Keep.cons rfl (Keep.cons rfl (Keep.nil))) (tO) ?_
    rintro x ⟨hx, hs⟩
    replace hx : x ≤ (c :: r).length := hx
    replace hs : spn isIn (c :: r) = x + spn isIn ((c :: r).drop x) := hs
    refine g_seq ?_
    refine g_seq ?_
    refine g_region ?_
    refine gl_v rfl (o_move rfl) ?_
    refine gl_v rfl (o_move rfl) ?_
    refine gl_v rfl (o_lens rfl) ?_
    refine gl_v rfl (o_lss rfl rfl) ?_
    refine gl_nil ?_
    refine ge_then ?_
    refine g_cond rfl (fun hc4 => ?_) (fun hc4 => ?_)
    ·
     replace hc4 := hs_ hc4
     refine g_skip ?_
     refine ge_then ?_
     refine g_seq ?_
     refine g_block ?_
     refine g_seq ?_
     refine g_region ?_
     refine gl_v rfl (o_move rfl) ?_
     refine gl_v rfl (o_move rfl) ?_
     obtain ⟨d, hg⟩ : ∃ d, (c :: r)[x]? = some d := ⟨_, List.getElem?_eq_getElem (show x < (c :: r).length by omega)⟩
     refine gl_v rfl (o_index_string rfl rfl (hg)) ?_
     refine gl_c rfl (o_call rfl (Is_spec d) pA) ?_
     rintro _ R ⟨_, ⟨rfl, rfl⟩, rfl⟩
     try simp only [List.cons_append, List.nil_append]
     refine gl_v rfl (o_assign rfl) ?_
     refine gl_nil ?_
     refine ge_then ?_
     refine g_seq ?_
     refine g_region ?_
     refine gl_v rfl (o_move rfl) ?_
     refine gl_v rfl (o_neq rfl rfl) ?_
     refine gl_v rfl (o_move rfl) ?_
     refine gl_g rfl rfl (fun hc5 => ?_) (fun hc5 => ?_) rfl
     ·
      have hc5' := hc5
      replace hc5' := hs_ hc5'
      refine gl_v rfl (o_move rfl) ?_
      refine gl_gT rfl rfl hc5 ?_
      refine gl_v rfl (o_neq rfl rfl) ?_
      refine gl_v rfl (o_pickT hc5 rfl rfl) ?_
      refine gl_v rfl (o_move rfl) ?_
      refine gl_g rfl rfl (fun hc6 => ?_) (fun hc6 => ?_) rfl
      ·
       have hc6' := hc6
       replace hc6' := hs_ hc6'
       refine gl_v rfl (o_move rfl) ?_
       refine gl_gT rfl rfl hc6 ?_
       refine gl_v rfl (o_neq rfl rfl) ?_
       refine gl_v rfl (o_pickT hc6 rfl rfl) ?_
       refine gl_nil ?_
       refine ge_then ?_
       refine g_cond rfl (fun hc7 => ?_) (fun hc7 => ?_)
       ·
        replace hc7 := hs_ hc7
        refine g_seq ?_
        refine g_region ?_
        refine gl_v rfl (o_assign rfl) ?_
        refine gl_nil ?_
        refine ge_then ?_
        refine g_ret ?_
        refine ge_block_ret ?_
        refine ge_then_ret ?_
        refine ge_then_ret ?_
        refine ge_block_ret ?_
        refine ge_then_ret ?_
        refine ret1 (.inl rfl) rfl rfl _ (⟨by first | (rw [name_all hlc h16, hs, spn_no hg (in_f (by omega))]; refine bool_eq ?_; simp only [decide_eq_true_eq, Bool.false_eq_true, false_iff]; omega) | (rw [name_all hlc h16, hs, spn_end (by omega)]; refine bool_eq ?_; simp only [decide_eq_true_eq, true_iff]; omega) | rw [name_long (by omega)] | rw [name_nolet (let_f (by omega))] | (have : l = [] := List.eq_nil_of_length_eq_zero (by omega); subst this; rfl), rfl⟩) (tO)
       ·
        replace hc7 := hs_ hc7
        refine g_skip ?_
        refine ge_block ?_
        refine ge_then ?_
        refine g_region ?_
        refine gl_v rfl (o_move rfl) ?_
        refine gl_v rfl (o_addR (((x + 1 : Nat) : Int)) (by rw [wr_i64 (by omega)]; omega) rfl rfl) ?_
        refine gl_v rfl (o_assign rfl) ?_
        refine gl_nil ?_
        have hi : isIn d = true := (isc_in d).2 (by omega)
        refine ge_round (x + 1) ⟨show x + 1 ≤ (c :: r).length by omega, show spn isIn (c :: r) = x + 1 + spn isIn ((c :: r).drop (x + 1)) by rw [hs, spn_step hg hi]; omega⟩ (show (c :: r).length - (x + 1) < (c :: r).length - x by omega) (Keep.cons rfl (Keep.cons rfl (Keep.nil))) (tO)
      ·
       have hc6' := hc6
       replace hc6' := hs_ hc6'
       simp only [putO]
       refine gl_gF rfl rfl hc6 rfl ?_
       refine gl_v rfl (o_pickF hc6 rfl rfl) ?_
       refine gl_nil ?_
       refine ge_then ?_
       refine g_cond_false rfl ?_
       refine g_skip ?_
       refine ge_block ?_
       refine ge_then ?_
       refine g_region ?_
       refine gl_v rfl (o_move rfl) ?_
       refine gl_v rfl (o_addR (((x + 1 : Nat) : Int)) (by rw [wr_i64 (by omega)]; omega) rfl rfl) ?_
       refine gl_v rfl (o_assign rfl) ?_
       refine gl_nil ?_
       have hi : isIn d = true := (isc_in d).2 (by omega)
       refine ge_round (x + 1) ⟨show x + 1 ≤ (c :: r).length by omega, show spn isIn (c :: r) = x + 1 + spn isIn ((c :: r).drop (x + 1)) by rw [hs, spn_step hg hi]; omega⟩ (show (c :: r).length - (x + 1) < (c :: r).length - x by omega) (Keep.cons rfl (Keep.cons rfl (Keep.nil))) (tO)
     ·
      have hc5' := hc5
      replace hc5' := hs_ hc5'
      simp only [putO]
      refine gl_gF rfl rfl hc5 rfl ?_
      refine gl_v rfl (o_pickF hc5 rfl rfl) ?_
      refine gl_v rfl (o_move rfl) ?_
      refine gl_gF rfl rfl rfl rfl ?_
      refine gl_gF rfl rfl rfl rfl ?_
      refine gl_v rfl (o_pickF rfl rfl rfl) ?_
      refine gl_nil ?_
      refine ge_then ?_
      refine g_cond_false rfl ?_
      refine g_skip ?_
      refine ge_block ?_
      refine ge_then ?_
      refine g_region ?_
      refine gl_v rfl (o_move rfl) ?_
      refine gl_v rfl (o_addR (((x + 1 : Nat) : Int)) (by rw [wr_i64 (by omega)]; omega) rfl rfl) ?_
      refine gl_v rfl (o_assign rfl) ?_
      refine gl_nil ?_
      have hi : isIn d = true := (isc_in d).2 (by omega)
      refine ge_round (x + 1) ⟨show x + 1 ≤ (c :: r).length by omega, show spn isIn (c :: r) = x + 1 + spn isIn ((c :: r).drop (x + 1)) by rw [hs, spn_step hg hi]; omega⟩ (show (c :: r).length - (x + 1) < (c :: r).length - x by omega) (Keep.cons rfl (Keep.cons rfl (Keep.nil))) (tO)
    ·
     replace hc4 := hs_ hc4
     refine g_exit ?_
     refine ge_then_exit ?_
     refine ge_then_exit ?_
     refine ge_block_exit ?_
     refine ge_then ?_
     refine g_seq ?_
     refine g_region ?_
     refine gl_v rfl (o_assign rfl) ?_
     refine gl_nil ?_
     refine ge_then ?_
     refine g_ret ?_
     refine ret1 (.inl rfl) rfl rfl _ (⟨by first | (rw [name_all hlc h16, hs, spn_no hg (in_f (by omega))]; refine bool_eq ?_; simp only [decide_eq_true_eq, Bool.false_eq_true, false_iff]; omega) | (rw [name_all hlc h16, hs, spn_end (by omega)]; refine bool_eq ?_; simp only [decide_eq_true_eq, true_iff]; omega) | rw [name_long (by omega)] | rw [name_nolet (let_f (by omega))] | (have : l = [] := List.eq_nil_of_length_eq_zero (by omega); subst this; rfl), rfl⟩) (tO)
  ·
   have hc2' := hc2
   replace hc2' := hs_ hc2'
   simp only [putO]
   refine gl_gF rfl rfl hc2 rfl ?_
   refine gl_gF rfl rfl hc2 rfl ?_
   refine gl_gF rfl rfl hc2 rfl ?_
   refine gl_v rfl (o_pickT hc2 rfl rfl) ?_
   refine gl_nil ?_
   refine ge_then ?_
   refine g_cond_true rfl ?_
   refine g_seq ?_
   refine g_region ?_
   refine gl_v rfl (o_assign rfl) ?_
   refine gl_nil ?_
   refine ge_then ?_
   refine g_ret ?_
   refine ge_then_ret ?_
   refine ret1 (.inl rfl) rfl rfl _ (⟨by first | (rw [name_all hlc h16, hs, spn_no hg (in_f (by omega))]; refine bool_eq ?_; simp only [decide_eq_true_eq, Bool.false_eq_true, false_iff]; omega) | (rw [name_all hlc h16, hs, spn_end (by omega)]; refine bool_eq ?_; simp only [decide_eq_true_eq, true_iff]; omega) | rw [name_long (by omega)] | rw [name_nolet (let_f (by omega))] | (have : l = [] := List.eq_nil_of_length_eq_zero (by omega); subst this; rfl), rfl⟩) (tO)
 ·
  have hc1' := hc1
  replace hc1' := hs_ hc1'
  simp only [putO]
  refine gl_gF rfl rfl hc1 rfl ?_
  refine gl_gF rfl rfl hc1 rfl ?_
  refine gl_v rfl (o_pickT hc1 rfl rfl) ?_
  refine gl_v rfl (o_move rfl) ?_
  refine gl_gF rfl rfl rfl rfl ?_
  refine gl_gF rfl rfl rfl rfl ?_
  refine gl_gF rfl rfl rfl rfl ?_
  refine gl_gF rfl rfl rfl rfl ?_
  refine gl_v rfl (o_pickT rfl rfl rfl) ?_
  refine gl_nil ?_
  refine ge_then ?_
  refine g_cond_true rfl ?_
  refine g_seq ?_
  refine g_region ?_
  refine gl_v rfl (o_assign rfl) ?_
  refine gl_nil ?_
  refine ge_then ?_
  refine g_ret ?_
  refine ge_then_ret ?_
  refine ret1 (.inl rfl) rfl rfl _ (⟨by first | (rw [name_all hlc h16, hs, spn_no hg (in_f (by omega))]; refine bool_eq ?_; simp only [decide_eq_true_eq, Bool.false_eq_true, false_iff]; omega) | (rw [name_all hlc h16, hs, spn_end (by omega)]; refine bool_eq ?_; simp only [decide_eq_true_eq, true_iff]; omega) | rw [name_long (by omega)] | rw [name_nolet (let_f (by omega))] | (have : l = [] := List.eq_nil_of_length_eq_zero (by omega); subst this; rfl), rfl⟩) (tO)

end Go.Proofs.YtcglaiacohkaeaaDoor.L
