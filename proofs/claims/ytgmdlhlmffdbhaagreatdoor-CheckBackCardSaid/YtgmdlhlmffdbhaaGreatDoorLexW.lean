/-
  Lex: what each function computes. Own work, printed in part by a program of its own.
-/
import Derived.Test.YtgmdlhlmffdbhaaGreatDoorLexX
import Derived.Test.YtgmdlhlmffdbhaaGreatDoorFns
set_option linter.unusedSimpArgs false
set_option linter.unusedVariables false
set_option linter.unusedSectionVars false
namespace Go.Proofs.YtgmdlhlmffdbhaaGreatDoor.L
open Go.L Go.L.Lx
def tkC (t : Tk) : List Value := [I64 t.kind, S t.text, I64 t.n, I64 t.at']
abbrev errV (b : Nat) : Value := .iface 65 (ptr b 0)
abbrev errM (b : Nat) (e : Err) : Assn := cel b 115 [I64 e.1, I64 e.2]
attribute [local irreducible] isLet isDig isIn isBlank isSign notNl
abbrev B8 (c : UInt8) : Value := .int .u8 c.toNat
theorem bool_eq {a b : Bool} (h : a = true ↔ b = true) : Value.bool a = Value.bool b := by rw [Bool.eq_iff_iff.2 h]
theorem byte_lt (c : UInt8) : (c.toNat : Int) < 256 := by have := c.toNat_lt; omega
theorem get_cons {l : By} {p : Nat} {c : UInt8} {r : By} (h : l.drop p = c :: r) : l[p]? = some c := by
  have := congrArg (·[0]?) h; simpa using this
theorem ret2c {P : Program} {W0 : World} {n : Nat} {sl : Slots} {As R : List Assn} {fn : Func} {post : Value → List Assn → Prop} {e : Exit} (he : e = .ret ∨ e = .normal) {t1 t2 b1 : Nat} {T1 e1 sz : Nat} {v2 : Value} {vs : List Value}
    {u1 : Obj → List Assn} [TAgg P T1 sz] [Owns b1 As (.cells vs.toArray e1 (0, 0)) u1]
    (hf : fn.results = #[.cell t1 T1, .tmp t2]) (h1 : slk sl t1 = some (ptr b1 0)) (h2 : slk sl t2 = some v2) (hl : vs.length = sz)
    (Bs : List Assn) (hp : post (.tuple #[.agg vs.toArray, v2]) Bs) (hA : ∀ h, Sat As h → Sat (Bs ++ R) h) : GE W0 n sl As (FQ P W0 fn post R e) :=
  fq_ret he (fun a w hs s => by
    have r1 := agg_res (P := P) (T := T1) (b := b1) (off := 0) (vs := vs) s (by rw [List.drop_zero, List.take_of_length_le (by omega)]) hl
    simp [results, hf, hs.val _ _ h1, hs.val _ _ h2, asAddr, r1]) Bs hp hA

set_option maxRecDepth 8000 in
theorem letter_spec (c : UInt8) : FnS Tryz.prog 68 [B8 c] [] (fun u Bs => u = .bool (isLet c) ∧ Bs = []) := by
 refine fn_body Tryz.func68 rfl rfl rfl ?_
 intro W0 R
 simp only [List.zipIdx_cons, List.zipIdx_nil, List.map_cons, List.map_nil, Nat.zero_add, Nat.reduceAdd, List.cons_append, List.nil_append]
 refine g_seq ?_
 refine g_region ?_
 refine gl_v rfl (o_assign rfl) ?_
 refine gl_nil ?_
 refine ge_then ?_
 refine g_seq ?_
 refine g_region ?_
 refine gl_v rfl (o_move rfl) ?_
 refine gl_v rfl (o_geq rfl rfl) ?_
 refine gl_v rfl (o_move rfl) ?_
 refine gl_g rfl rfl (fun hc1 => ?_) (fun hc1 => ?_) rfl
 ·
  have hc1' := hc1
  replace hc1' := hs_ hc1'
  refine gl_v rfl (o_move rfl) ?_
  refine gl_gT rfl rfl hc1 ?_
  refine gl_v rfl (o_leq rfl rfl) ?_
  refine gl_v rfl (o_pickT hc1 rfl rfl) ?_
  refine gl_v rfl (o_assign rfl) ?_
  refine gl_nil ?_
  refine ge_then ?_
  refine g_ret ?_
  refine ret1 (.inl rfl) rfl rfl _ (⟨by unfold isLet; refine bool_eq ?_; simp only [decide_eq_true_eq, Bool.false_eq_true, Bool.true_eq_false, Bool.not_eq_true', decide_eq_false_iff_not, Bool.and_eq_true, Bool.or_eq_true, true_iff, false_iff, iff_true, iff_false]; omega, rfl⟩) (tO)
 ·
  have hc1' := hc1
  replace hc1' := hs_ hc1'
  simp only [putO]
  refine gl_gF rfl rfl hc1 rfl ?_
  refine gl_v rfl (o_pickF hc1 rfl rfl) ?_
  refine gl_v rfl (o_assign rfl) ?_
  refine gl_nil ?_
  refine ge_then ?_
  refine g_ret ?_
  refine ret1 (.inl rfl) rfl rfl _ (⟨by unfold isLet; refine bool_eq ?_; simp only [decide_eq_true_eq, Bool.false_eq_true, Bool.true_eq_false, Bool.not_eq_true', decide_eq_false_iff_not, Bool.and_eq_true, Bool.or_eq_true, true_iff, false_iff, iff_true, iff_false]; omega, rfl⟩) (tO)

set_option maxRecDepth 8000 in
theorem digit_spec (c : UInt8) : FnS Tryz.prog 82 [B8 c] [] (fun u Bs => u = .bool (isDig c) ∧ Bs = []) := by
 refine fn_body Tryz.func82 rfl rfl rfl ?_
 intro W0 R
 simp only [List.zipIdx_cons, List.zipIdx_nil, List.map_cons, List.map_nil, Nat.zero_add, Nat.reduceAdd, List.cons_append, List.nil_append]
 refine g_seq ?_
 refine g_region ?_
 refine gl_v rfl (o_assign rfl) ?_
 refine gl_nil ?_
 refine ge_then ?_
 refine g_seq ?_
 refine g_region ?_
 refine gl_v rfl (o_move rfl) ?_
 refine gl_v rfl (o_geq rfl rfl) ?_
 refine gl_v rfl (o_move rfl) ?_
 refine gl_g rfl rfl (fun hc1 => ?_) (fun hc1 => ?_) rfl
 ·
  have hc1' := hc1
  replace hc1' := hs_ hc1'
  refine gl_v rfl (o_move rfl) ?_
  refine gl_gT rfl rfl hc1 ?_
  refine gl_v rfl (o_leq rfl rfl) ?_
  refine gl_v rfl (o_pickT hc1 rfl rfl) ?_
  refine gl_v rfl (o_assign rfl) ?_
  refine gl_nil ?_
  refine ge_then ?_
  refine g_ret ?_
  refine ret1 (.inl rfl) rfl rfl _ (⟨by unfold isDig; refine bool_eq ?_; simp only [decide_eq_true_eq, Bool.false_eq_true, Bool.true_eq_false, Bool.not_eq_true', decide_eq_false_iff_not, Bool.and_eq_true, Bool.or_eq_true, true_iff, false_iff, iff_true, iff_false]; omega, rfl⟩) (tO)
 ·
  have hc1' := hc1
  replace hc1' := hs_ hc1'
  simp only [putO]
  refine gl_gF rfl rfl hc1 rfl ?_
  refine gl_v rfl (o_pickF hc1 rfl rfl) ?_
  refine gl_v rfl (o_assign rfl) ?_
  refine gl_nil ?_
  refine ge_then ?_
  refine g_ret ?_
  refine ret1 (.inl rfl) rfl rfl _ (⟨by unfold isDig; refine bool_eq ?_; simp only [decide_eq_true_eq, Bool.false_eq_true, Bool.true_eq_false, Bool.not_eq_true', decide_eq_false_iff_not, Bool.and_eq_true, Bool.or_eq_true, true_iff, false_iff, iff_true, iff_false]; omega, rfl⟩) (tO)

set_option maxRecDepth 8000 in
theorem skip_1_spec (c : UInt8) : FnS Tryz.prog 81 [B8 c] [] (fun u Bs => u = .bool (notNl c) ∧ Bs = []) := by
 refine fn_body Tryz.func81 rfl rfl rfl ?_
 intro W0 R
 simp only [List.zipIdx_cons, List.zipIdx_nil, List.map_cons, List.map_nil, Nat.zero_add, Nat.reduceAdd, List.cons_append, List.nil_append]
 refine g_seq ?_
 refine g_region ?_
 refine gl_v rfl (o_assign rfl) ?_
 refine gl_nil ?_
 refine ge_then ?_
 refine g_seq ?_
 refine g_region ?_
 refine gl_v rfl (o_move rfl) ?_
 refine gl_v rfl (o_neq rfl rfl) ?_
 refine gl_v rfl (o_assign rfl) ?_
 refine gl_nil ?_
 refine ge_then ?_
 refine g_ret ?_
 refine ret1 (.inl rfl) rfl rfl _ (⟨by unfold notNl; refine bool_eq ?_; simp only [decide_eq_true_eq, Bool.false_eq_true, Bool.true_eq_false, Bool.not_eq_true', decide_eq_false_iff_not, Bool.and_eq_true, Bool.or_eq_true, true_iff, false_iff, iff_true, iff_false]; omega, rfl⟩) (tO)

set_option maxRecDepth 8000 in
theorem inner_spec (c : UInt8) : FnS Tryz.prog 70 [B8 c] [] (fun u Bs => u = .bool (isIn c) ∧ Bs = []) := by
 refine fn_body Tryz.func70 rfl rfl rfl ?_
 intro W0 R
 simp only [List.zipIdx_cons, List.zipIdx_nil, List.map_cons, List.map_nil, Nat.zero_add, Nat.reduceAdd, List.cons_append, List.nil_append]
 refine g_seq ?_
 refine g_region ?_
 refine gl_v rfl (o_assign rfl) ?_
 refine gl_nil ?_
 refine ge_then ?_
 refine g_seq ?_
 refine g_region ?_
 refine gl_v rfl (o_move rfl) ?_
 refine gl_c rfl (o_call rfl (letter_spec _) pA) ?_
 rintro _ R ⟨_, ⟨rfl, rfl⟩, rfl⟩
 try simp only [List.cons_append, List.nil_append]
 refine gl_v rfl (o_move rfl) ?_
 refine gl_g rfl rfl (fun hc1 => ?_) (fun hc1 => ?_) rfl
 ·
  have hc1' := hc1
  replace hc1' := hs_ hc1'
  refine gl_v rfl (o_move rfl) ?_
  refine gl_gT rfl rfl hc1 ?_
  refine gl_c rfl (o_call rfl (digit_spec _) pA) ?_
  rintro _ R ⟨_, ⟨rfl, rfl⟩, rfl⟩
  try simp only [List.cons_append, List.nil_append]
  refine gl_v rfl (o_pickF hc1 rfl rfl) ?_
  refine gl_v rfl (o_move rfl) ?_
  refine gl_g rfl rfl (fun hc2 => ?_) (fun hc2 => ?_) rfl
  ·
   have hc2' := hc2
   replace hc2' := hs_ hc2'
   refine gl_v rfl (o_move rfl) ?_
   refine gl_gT rfl rfl hc2 ?_
   refine gl_v rfl (o_eql rfl rfl) ?_
   refine gl_v rfl (o_pickF hc2 rfl rfl) ?_
   refine gl_v rfl (o_assign rfl) ?_
   refine gl_nil ?_
   refine ge_then ?_
   refine g_ret ?_
   refine ret1 (.inl rfl) rfl rfl _ (⟨by refine bool_eq ?_; unfold isIn; (try simp only [isLet, isDig, Bool.not_false, Bool.not_true] at *); (try simp only [decide_eq_true_eq, decide_eq_false_iff_not] at *); (try simp only [decide_eq_true_eq, Bool.false_eq_true, Bool.true_eq_false, Bool.not_eq_true', decide_eq_false_iff_not, Bool.and_eq_true, Bool.or_eq_true, true_iff, false_iff, iff_true, iff_false]); omega, rfl⟩) (tO)
  ·
   have hc2' := hc2
   replace hc2' := hs_ hc2'
   simp only [putO]
   refine gl_gF rfl rfl hc2 rfl ?_
   refine gl_v rfl (o_pickT hc2 rfl rfl) ?_
   refine gl_v rfl (o_assign rfl) ?_
   refine gl_nil ?_
   refine ge_then ?_
   refine g_ret ?_
   refine ret1 (.inl rfl) rfl rfl _ (⟨by refine bool_eq ?_; unfold isIn; (try simp only [isLet, isDig, Bool.not_false, Bool.not_true] at *); (try simp only [decide_eq_true_eq, decide_eq_false_iff_not] at *); (try simp only [decide_eq_true_eq, Bool.false_eq_true, Bool.true_eq_false, Bool.not_eq_true', decide_eq_false_iff_not, Bool.and_eq_true, Bool.or_eq_true, true_iff, false_iff, iff_true, iff_false]); omega, rfl⟩) (tO)
 ·
  have hc1' := hc1
  replace hc1' := hs_ hc1'
  simp only [putO]
  refine gl_gF rfl rfl hc1 rfl ?_
  refine gl_v rfl (o_pickT hc1 rfl rfl) ?_
  refine gl_v rfl (o_move rfl) ?_
  refine gl_gF rfl rfl rfl rfl ?_
  refine gl_gF rfl rfl rfl rfl ?_
  refine gl_v rfl (o_pickT rfl rfl rfl) ?_
  refine gl_v rfl (o_assign rfl) ?_
  refine gl_nil ?_
  refine ge_then ?_
  refine g_ret ?_
  refine ret1 (.inl rfl) rfl rfl _ (⟨by refine bool_eq ?_; unfold isIn; (try simp only [isLet, isDig, Bool.not_false, Bool.not_true] at *); (try simp only [decide_eq_true_eq, decide_eq_false_iff_not] at *); (try simp only [decide_eq_true_eq, Bool.false_eq_true, Bool.true_eq_false, Bool.not_eq_true', decide_eq_false_iff_not, Bool.and_eq_true, Bool.or_eq_true, true_iff, false_iff, iff_true, iff_false]); omega, rfl⟩) (tO)

set_option maxRecDepth 8000 in
theorem span_spec (q : UInt8 → Bool) (F : FuncId) [TFunc Tryz.prog F] (hF : ∀ c, FnS Tryz.prog F [B8 c] [] (fun u Bs => u = .bool (q c) ∧ Bs = [])) (l : By) (hl : l.length ≤ 9223372036854775807) : FnS Tryz.prog 69 [S l, .func (.func F) #[] #[]] [] (fun u Bs => u = I64 (spn q l) ∧ Bs = []) := by
 refine fn_body Tryz.func69 rfl rfl rfl ?_
 intro W0 R
 simp only [List.zipIdx_cons, List.zipIdx_nil, List.map_cons, List.map_nil, Nat.zero_add, Nat.reduceAdd, List.cons_append, List.nil_append]
 refine g_seq ?_
 refine g_region ?_
 refine gl_v rfl (o_assign rfl) ?_
 refine gl_nil ?_
 refine ge_then ?_
 refine g_seq ?_
 refine g_region ?_
 refine gl_v rfl (o_assign rfl) ?_
 refine gl_nil ?_
 refine ge_then ?_
 refine g_seq ?_
 refine g_block ?_
 refine g_loop (ι := Nat) (fun x => x ≤ l.length ∧ spn q l = x + spn q (l.drop x)) (fun x => [(5, I64 x), (0, S l), (1, .func (.func F) #[] #[])]) (fun _ => R) (fun x => l.length - x) 0 (⟨Nat.zero_le _, by rw [List.drop_zero, Nat.zero_add]⟩) (Keep.cons rfl (Keep.cons rfl (Keep.cons rfl (Keep.nil)))) (tO) ?_
 rintro x ⟨hx, hs⟩
 replace hx : x ≤ l.length := hx
 replace hs : spn q l = x + spn q (l.drop x) := hs
 refine g_seq ?_
 refine g_seq ?_
 refine g_region ?_
 refine gl_v rfl (o_move rfl) ?_
 refine gl_v rfl (o_move rfl) ?_
 refine gl_v rfl (o_lens rfl) ?_
 refine gl_v rfl (o_lss rfl rfl) ?_
 refine gl_v rfl (o_move rfl) ?_
 refine gl_g rfl rfl (fun hc1 => ?_) (fun hc1 => ?_) rfl
 ·
  have hc1' := hc1
  replace hc1' := hs_ hc1'
  refine gl_v rfl (o_move rfl) ?_
  refine gl_gT rfl rfl hc1 ?_
  refine gl_v rfl (o_move rfl) ?_
  refine gl_gT rfl rfl hc1 ?_
  refine gl_v rfl (o_move rfl) ?_
  refine gl_gT rfl rfl hc1 ?_
  obtain ⟨c, hg⟩ : ∃ c, l[x]? = some c := ⟨_, List.getElem?_eq_getElem (show x < l.length by omega)⟩
  refine gl_v rfl (o_index_string rfl rfl (hg)) ?_
  refine gl_gT rfl rfl hc1 ?_
  refine gl_c rfl (o_callV rfl rfl (hF c) pA) ?_
  rintro _ R ⟨_, ⟨rfl, rfl⟩, rfl⟩
  try simp only [List.cons_append, List.nil_append]
  refine gl_v rfl (o_pickT hc1 rfl rfl) ?_
  refine gl_nil ?_
  refine ge_then ?_
  refine g_cond rfl (fun hc2 => ?_) (fun hc2 => ?_)
  ·
   replace hc2 := hs_ hc2
   refine g_skip ?_
   refine ge_then ?_
   refine g_block ?_
   refine g_region ?_
   refine gl_v rfl (o_move rfl) ?_
   refine gl_v rfl (o_addR (((x + 1 : Nat) : Int)) (by rw [wr_i64 (by omega)]; omega) rfl rfl) ?_
   refine gl_v rfl (o_assign rfl) ?_
   refine gl_nil ?_
   refine ge_block ?_
   have hq : q c = true := by first | exact hc1 | exact hc2 | exact hc3 | assumption
   refine ge_round (x + 1) ⟨show x + 1 ≤ l.length by omega, show spn q l = x + 1 + spn q (l.drop (x + 1)) by rw [hs, spn_step hg hq]; omega⟩ (show l.length - (x + 1) < l.length - x by omega) (Keep.cons rfl (Keep.cons rfl (Keep.cons rfl (Keep.nil)))) (tO)
  ·
   replace hc2 := hs_ hc2
   refine g_exit ?_
   refine ge_then_exit ?_
   refine ge_then_exit ?_
   refine ge_block_exit ?_
   refine ge_then ?_
   refine g_seq ?_
   refine g_region ?_
   refine gl_v rfl (o_move rfl) ?_
   refine gl_v rfl (o_assign rfl) ?_
   refine gl_nil ?_
   refine ge_then ?_
   refine g_ret ?_
   refine ret1 (.inl rfl) rfl rfl _ (⟨by rw [hs]; first | (rw [spn_end (by omega)]; rfl) | (rw [spn_no hg (by first | exact hc1 | exact hc2 | exact hc3 | assumption)]; rfl), rfl⟩) (tO)
 ·
  have hc1' := hc1
  replace hc1' := hs_ hc1'
  simp only [putO]
  refine gl_gF rfl rfl hc1 rfl ?_
  refine gl_gF rfl rfl hc1 rfl ?_
  refine gl_gF rfl rfl hc1 rfl ?_
  refine gl_gF rfl rfl hc1 rfl ?_
  refine gl_v rfl (o_pickF hc1 rfl rfl) ?_
  refine gl_nil ?_
  refine ge_then ?_
  refine g_cond_false rfl ?_
  refine g_exit ?_
  refine ge_then_exit ?_
  refine ge_then_exit ?_
  refine ge_block_exit ?_
  refine ge_then ?_
  refine g_seq ?_
  refine g_region ?_
  refine gl_v rfl (o_move rfl) ?_
  refine gl_v rfl (o_assign rfl) ?_
  refine gl_nil ?_
  refine ge_then ?_
  refine g_ret ?_
  refine ret1 (.inl rfl) rfl rfl _ (⟨by rw [hs]; first | (rw [spn_end (by omega)]; rfl) | (rw [spn_no hg (by first | exact hc1 | exact hc2 | exact hc3 | assumption)]; rfl), rfl⟩) (tO)

theorem name_take {c : UInt8} {r : By} (h : isLet c = true) : isName ((c :: r).take (spn isIn (c :: r))) = decide (spn isIn (c :: r) ≤ 16) := by
  have h1 := spn_take isIn (c :: r)
  have h2 : ((c :: r).take (spn isIn (c :: r))).length = spn isIn (c :: r) := by rw [List.length_take]; exact Nat.min_eq_left (spn_le _ _)
  obtain ⟨s, hs⟩ : ∃ s, (c :: r).take (spn isIn (c :: r)) = c :: s := ⟨r.take (spn isIn r), by rw [spn_cons (let_in h), List.take_succ_cons]⟩
  rw [hs] at h1 h2 ⊢
  have h3 : spn isIn (c :: s) = (c :: s).length := by have := spn_app (p := isIn) (c :: s) [] h1; rw [List.append_nil] at this; exact this
  unfold isName
  simp only [h, h3, Bool.true_and, h2, decide_true]
theorem isName_eq (c : UInt8) (r : By) : isName (c :: r) = (isLet c && decide (spn isIn (c :: r) = (c :: r).length) && decide ((c :: r).length ≤ 16)) := rfl
theorem name_long {l : By} (h : 16 < l.length) : isName l = false := by
  cases l with
  | nil => rfl
  | cons c r => rw [isName_eq, decide_eq_false (p := (c :: r).length ≤ 16) (by omega), Bool.and_false]
theorem name_nolet {c : UInt8} {r : By} (h : isLet c = false) : isName (c :: r) = false := by rw [isName_eq, h]; rfl
theorem name_all {c : UInt8} {r : By} (h : isLet c = true) (h2 : (c :: r).length ≤ 16) : isName (c :: r) = decide (((spn isIn (c :: r) : Nat) : Int) = ((c :: r).length : Nat)) := by
  rw [isName_eq, h, decide_eq_true h2, Bool.true_and, Bool.and_true, Bool.eq_iff_iff]
  simp only [decide_eq_true_eq]; omega
theorem ne_neg {x : Int} (h : (!decide (x = 0)) = false) : x = 0 := by simpa using h

set_option maxRecDepth 8000 in
theorem Name_spec (l : By) (hl : l.length ≤ 9223372036854775807) : FnS Tryz.prog 40 [S l] [] (fun u Bs => u = .bool (isName l) ∧ Bs = []) := by
 refine fn_body Tryz.func40 rfl rfl rfl ?_
 intro W0 R
 simp only [List.zipIdx_cons, List.zipIdx_nil, List.map_cons, List.map_nil, Nat.zero_add, Nat.reduceAdd, List.cons_append, List.nil_append]
 refine g_seq ?_
 refine g_region ?_
 refine gl_v rfl (o_assign rfl) ?_
 refine gl_nil ?_
 refine ge_then ?_
 refine g_seq ?_
 refine g_region ?_
 refine gl_v rfl (o_move rfl) ?_
 refine gl_v rfl (o_neqs rfl rfl) ?_
 refine gl_v rfl (o_move rfl) ?_
 refine gl_g rfl rfl (fun hc1 => ?_) (fun hc1 => ?_) rfl
 ·
  have hc1' := hc1
  replace hc1' := hs_ hc1'
  refine gl_v rfl (o_move rfl) ?_
  refine gl_gT rfl rfl hc1 ?_
  refine gl_v rfl (o_lens rfl) ?_
  refine gl_gT rfl rfl hc1 ?_
  refine gl_v rfl (o_leq rfl rfl) ?_
  refine gl_v rfl (o_pickT hc1 rfl rfl) ?_
  refine gl_v rfl (o_move rfl) ?_
  refine gl_g rfl rfl (fun hc2 => ?_) (fun hc2 => ?_) rfl
  ·
   have hc2' := hc2
   replace hc2' := hs_ hc2'
   refine gl_v rfl (o_move rfl) ?_
   refine gl_gT rfl rfl hc2 ?_
   obtain ⟨c, r, rfl⟩ : ∃ c r, l = c :: r := by
     cases l with
     | nil => simp at *
     | cons c r => exact ⟨c, r, rfl⟩
   refine gl_v rfl (o_index_string rfl rfl (rfl)) ?_
   refine gl_gT rfl rfl hc2 ?_
   refine gl_c rfl (o_call rfl (letter_spec _) pA) ?_
   rintro _ R ⟨_, ⟨rfl, rfl⟩, rfl⟩
   try simp only [List.cons_append, List.nil_append]
   refine gl_v rfl (o_pickT hc2 rfl rfl) ?_
   refine gl_v rfl (o_move rfl) ?_
   refine gl_g rfl rfl (fun hc3 => ?_) (fun hc3 => ?_) rfl
   ·
    have hc3' := hc3
    replace hc3' := hs_ hc3'
    refine gl_v rfl (o_move rfl) ?_
    refine gl_gT rfl rfl hc3 ?_
    refine gl_c rfl (o_call rfl (span_spec isIn 70 (fun c => inner_spec c) (_) (by simp only [List.length_cons, List.length_drop] at *; omega)) pA) ?_
    rintro _ R ⟨_, ⟨rfl, rfl⟩, rfl⟩
    try simp only [List.cons_append, List.nil_append]
    refine gl_gT rfl rfl hc3 ?_
    refine gl_v rfl (o_move rfl) ?_
    refine gl_gT rfl rfl hc3 ?_
    refine gl_v rfl (o_lens rfl) ?_
    refine gl_gT rfl rfl hc3 ?_
    refine gl_v rfl (o_eql rfl rfl) ?_
    refine gl_v rfl (o_pickT hc3 rfl rfl) ?_
    refine gl_v rfl (o_assign rfl) ?_
    refine gl_nil ?_
    refine ge_then ?_
    refine g_ret ?_
    refine ret1 (.inl rfl) rfl rfl _ (⟨by first | rw [name_nolet (by assumption)] | rw [name_all (by assumption) (by simp only [List.length_cons] at *; omega)] | rw [name_long (by omega)] | (subst_vars; rfl), rfl⟩) (tO)
   ·
    have hc3' := hc3
    replace hc3' := hs_ hc3'
    simp only [putO]
    refine gl_gF rfl rfl hc3 rfl ?_
    refine gl_gF rfl rfl hc3 rfl ?_
    refine gl_gF rfl rfl hc3 rfl ?_
    refine gl_gF rfl rfl hc3 rfl ?_
    refine gl_v rfl (o_pickF hc3 rfl rfl) ?_
    refine gl_v rfl (o_assign rfl) ?_
    refine gl_nil ?_
    refine ge_then ?_
    refine g_ret ?_
    refine ret1 (.inl rfl) rfl rfl _ (⟨by first | rw [name_nolet (by assumption)] | rw [name_all (by assumption) (by simp only [List.length_cons] at *; omega)] | rw [name_long (by omega)] | (subst_vars; rfl), rfl⟩) (tO)
  ·
   have hc2' := hc2
   replace hc2' := hs_ hc2'
   simp only [putO]
   refine gl_gF rfl rfl hc2 rfl ?_
   refine gl_gF rfl rfl hc2 rfl ?_
   refine gl_v rfl (o_pickF hc2 rfl rfl) ?_
   refine gl_v rfl (o_move rfl) ?_
   refine gl_gF rfl rfl rfl rfl ?_
   refine gl_gF rfl rfl rfl rfl ?_
   refine gl_gF rfl rfl rfl rfl ?_
   refine gl_gF rfl rfl rfl rfl ?_
   refine gl_gF rfl rfl rfl rfl ?_
   refine gl_v rfl (o_pickF rfl rfl rfl) ?_
   refine gl_v rfl (o_assign rfl) ?_
   refine gl_nil ?_
   refine ge_then ?_
   refine g_ret ?_
   refine ret1 (.inl rfl) rfl rfl _ (⟨by first | rw [name_nolet (by assumption)] | rw [name_all (by assumption) (by simp only [List.length_cons] at *; omega)] | rw [name_long (by omega)] | (subst_vars; rfl), rfl⟩) (tO)
 ·
  have hc1' := hc1
  replace hc1' := hs_ hc1'
  simp only [putO]
  refine gl_gF rfl rfl hc1 rfl ?_
  refine gl_gF rfl rfl hc1 rfl ?_
  refine gl_v rfl (o_pickF hc1 rfl rfl) ?_
  refine gl_v rfl (o_move rfl) ?_
  refine gl_gF rfl rfl rfl rfl ?_
  refine gl_gF rfl rfl rfl rfl ?_
  refine gl_gF rfl rfl rfl rfl ?_
  refine gl_v rfl (o_pickF rfl rfl rfl) ?_
  refine gl_v rfl (o_move rfl) ?_
  refine gl_gF rfl rfl rfl rfl ?_
  refine gl_gF rfl rfl rfl rfl ?_
  refine gl_gF rfl rfl rfl rfl ?_
  refine gl_gF rfl rfl rfl rfl ?_
  refine gl_gF rfl rfl rfl rfl ?_
  refine gl_v rfl (o_pickF rfl rfl rfl) ?_
  refine gl_v rfl (o_assign rfl) ?_
  refine gl_nil ?_
  refine ge_then ?_
  refine g_ret ?_
  refine ret1 (.inl rfl) rfl rfl _ (⟨by first | rw [name_nolet (by assumption)] | rw [name_all (by assumption) (by simp only [List.length_cons] at *; omega)] | rw [name_long (by omega)] | (subst_vars; rfl), rfl⟩) (tO)

theorem blank_mem (c : UInt8) : c ∈ [9, 10, 13, 32] ↔ isBlank c = true := by
  unfold isBlank
  simp only [List.mem_cons, List.not_mem_nil, or_false, decide_eq_true_eq]
  constructor
  · rintro (h | h | h | h) <;> subst h <;> simp
  · rintro (h | h | h | h)
    · exact .inl (UInt8.toNat_inj.1 h)
    · exact .inr (.inl (UInt8.toNat_inj.1 h))
    · exact .inr (.inr (.inl (UInt8.toNat_inj.1 h)))
    · exact .inr (.inr (.inr (UInt8.toNat_inj.1 h)))
theorem blank_f {c : UInt8} {r : Int} (hr : 0 ≤ r ↔ c ∈ [9, 10, 13, 32]) (h : r < 0) : isBlank c = false := by
  cases hb : isBlank c with
  | false => rfl
  | true => have := hr.2 ((blank_mem c).2 hb); omega
theorem skip_hash {l : By} {x p : Nat} {c : UInt8} (hg : l[x]? = some c) (h35 : c.toNat = 35) (h : lex p (l.drop p) = lex x (l.drop x)) : lex p (l.drop p) = lex (x + spn notNl (l.drop x)) (l.drop (x + spn notNl (l.drop x))) := by
  have e : x + (spn notNl (l.drop (x + 1)) + 1) = x + 1 + spn notNl (l.drop (x + 1)) := by omega
  rw [h, spn_step hg (by unfold notNl; rw [decide_eq_true_eq]; omega), e]
  rw [drop_at hg, lex_hash h35, List.drop_drop]
theorem skip_blank {l : By} {x p : Nat} {c : UInt8} (hg : l[x]? = some c) (hb : isBlank c = true) (h : lex p (l.drop p) = lex x (l.drop x)) : lex p (l.drop p) = lex (x + 1) (l.drop (x + 1)) := by
  rw [h, drop_at hg, lex_blank hb]
/-- where reading goes on -/
def Skp (l : By) (p q : Nat) : Prop := p ≤ q ∧ q ≤ l.length ∧ lex p (l.drop p) = lex q (l.drop q) ∧ ∀ c, l[q]? = some c → isBlank c = false ∧ c.toNat ≠ 35
theorem skp_end {l : By} {p : Nat} (h1 : p ≤ l.length) (h : lex p (l.drop p) = lex l.length (l.drop l.length)) : Skp l p l.length := ⟨h1, Nat.le_refl _, h, fun c hc => by simp at hc⟩
theorem skp_at {l : By} {p q : Nat} {c : UInt8} (hp : p ≤ q) (hq : q < l.length) (hg : l[q]? = some c) (h : lex p (l.drop p) = lex q (l.drop q)) (hb : isBlank c = false) (h35 : c.toNat ≠ 35) : Skp l p q :=
  ⟨hp, by omega, h, fun d hd => by rw [hg] at hd; obtain rfl := Option.some.inj hd; exact ⟨hb, h35⟩⟩

set_option maxRecDepth 8000 in
theorem skip_spec (l : By) (hl : l.length ≤ 140737488355328) (p : Nat) (hp : p ≤ l.length) : FnS Tryz.prog 54 [S l, I64 p] [] (fun u Bs => ∃ q : Nat, Skp l p q ∧ u = I64 q ∧ Bs = []) := by
 refine fn_body Tryz.func54 rfl rfl rfl ?_
 intro W0 R
 simp only [List.zipIdx_cons, List.zipIdx_nil, List.map_cons, List.map_nil, Nat.zero_add, Nat.reduceAdd, List.cons_append, List.nil_append]
 refine g_seq ?_
 refine g_region ?_
 refine gl_v rfl (o_assign rfl) ?_
 refine gl_nil ?_
 refine ge_then ?_
 refine g_seq ?_
 refine g_block ?_
 refine g_loop (ι := Nat) (fun x => x ≤ l.length ∧ p ≤ x ∧ lex p (l.drop p) = lex x (l.drop x)) (fun x => [(1, I64 x), (0, S l)]) (fun _ => R) (fun x => l.length - x) p (⟨hp, Nat.le_refl _, rfl⟩) (Keep.cons rfl (Keep.cons rfl (Keep.nil))) (tO) ?_
 rintro x ⟨hx, hpx, hs⟩
 replace hx : x ≤ l.length := hx
 replace hpx : p ≤ x := hpx
 replace hs : lex p (l.drop p) = lex x (l.drop x) := hs
 refine g_seq ?_
 refine g_seq ?_
 refine g_region ?_
 refine gl_v rfl (o_move rfl) ?_
 refine gl_v rfl (o_move rfl) ?_
 refine gl_v rfl (o_lens rfl) ?_
 refine gl_v rfl (o_lss rfl rfl) ?_
 refine gl_nil ?_
 refine ge_then ?_
 refine g_cond rfl (fun hc1 => ?_) (fun hc1 => ?_)
 ·
  replace hc1 := hs_ hc1
  obtain ⟨c, hg⟩ : ∃ c, l[x]? = some c := ⟨_, List.getElem?_eq_getElem (show x < l.length by omega)⟩
  refine g_skip ?_
  refine ge_then ?_
  refine g_block ?_
  refine g_block ?_
  refine g_seq ?_
  refine g_region ?_
  refine gl_v rfl (o_move rfl) ?_
  refine gl_v rfl (o_move rfl) ?_
  refine gl_v rfl (o_index_string rfl rfl (hg)) ?_
  refine gl_c rfl (o_call rfl (IndexByte_spec [9, 10, 13, 32] c) pA) ?_
  rintro _ R ⟨_, ⟨r, hr, rfl, rfl⟩, rfl⟩
  try simp only [List.cons_append, List.nil_append]
  refine gl_v rfl (o_geq rfl rfl) ?_
  refine gl_v rfl (o_assign rfl) ?_
  refine gl_nil ?_
  refine ge_then ?_
  refine g_cond rfl (fun hc2 => ?_) (fun hc2 => ?_)
  ·
   replace hc2 := hs_ hc2
   refine g_region ?_
   refine gl_v rfl (o_move rfl) ?_
   refine gl_v rfl (o_addR (((x + 1 : Nat) : Int)) (by rw [wr_i64 (by omega)]; omega) rfl rfl) ?_
   refine gl_v rfl (o_assign rfl) ?_
   refine gl_nil ?_
   refine ge_block ?_
   refine ge_block ?_
   refine ge_round (x + 1) ⟨show x + 1 ≤ l.length by omega, show p ≤ x + 1 by omega, skip_blank hg ((blank_mem c).1 (hr.1 (by omega))) hs⟩ (show l.length - (x + 1) < l.length - x by omega) (Keep.cons rfl (Keep.cons rfl (Keep.nil))) (tO)
  ·
   replace hc2 := hs_ hc2
   refine g_seq ?_
   refine g_region ?_
   refine gl_v rfl (o_move rfl) ?_
   refine gl_v rfl (o_move rfl) ?_
   refine gl_v rfl (o_index_string rfl rfl (hg)) ?_
   refine gl_v rfl (o_eql rfl rfl) ?_
   refine gl_v rfl (o_assign rfl) ?_
   refine gl_nil ?_
   refine ge_then ?_
   refine g_cond rfl (fun hc3 => ?_) (fun hc3 => ?_)
   ·
    replace hc3 := hs_ hc3
    refine g_region ?_
    refine gl_v rfl (o_move rfl) ?_
    refine gl_v rfl (o_move rfl) ?_
    refine gl_v rfl (o_move rfl) ?_
    refine gl_v rfl (o_strFrom rfl rfl (by omega)) ?_
    refine gl_c rfl (o_call rfl (span_spec notNl 81 (fun c => skip_1_spec c) (l.drop x) (by simp only [List.length_cons, List.length_drop] at *; omega)) pA) ?_
    rintro _ R ⟨_, ⟨rfl, rfl⟩, rfl⟩
    try simp only [List.cons_append, List.nil_append]
    refine gl_v rfl (o_addR (((x + spn notNl (l.drop x) : Nat) : Int)) (by have hle := spn_le notNl (l.drop x); rw [List.length_drop] at hle; rw [wr_i64 (by omega)]; omega) rfl rfl) ?_
    refine gl_v rfl (o_assign rfl) ?_
    refine gl_nil ?_
    refine ge_block ?_
    refine ge_block ?_
    have h35 : c.toNat = 35 := by omega
    have hst := spn_step (p := notNl) hg (by unfold notNl; rw [decide_eq_true_eq]; omega)
    have hle := spn_le notNl (l.drop x)
    rw [List.length_drop] at hle
    refine ge_round (x + spn notNl (l.drop x)) ⟨show x + spn notNl (l.drop x) ≤ l.length by omega, show p ≤ x + spn notNl (l.drop x) by omega, skip_hash hg h35 hs⟩ (show l.length - (x + spn notNl (l.drop x)) < l.length - x by omega) (Keep.cons rfl (Keep.cons rfl (Keep.nil))) (tO)
   ·
    replace hc3 := hs_ hc3
    refine g_seq ?_
    refine g_region ?_
    refine gl_v rfl (o_move rfl) ?_
    refine gl_v rfl (o_assign rfl) ?_
    refine gl_nil ?_
    refine ge_then ?_
    refine g_ret ?_
    refine ge_block_ret ?_
    refine ge_block_ret ?_
    refine ge_then_ret ?_
    refine ge_block_ret ?_
    refine ge_then_ret ?_
    refine ret1 (.inl rfl) rfl rfl _ (⟨_, skp_at hpx (by omega) hg hs (blank_f hr (by omega)) (by omega), rfl, rfl⟩) (tO)
 ·
  replace hc1 := hs_ hc1
  refine g_exit ?_
  refine ge_then_exit ?_
  refine ge_then_exit ?_
  refine ge_block_exit ?_
  refine ge_then ?_
  refine g_seq ?_
  refine g_region ?_
  refine gl_v rfl (o_move rfl) ?_
  refine gl_v rfl (o_assign rfl) ?_
  refine gl_nil ?_
  refine ge_then ?_
  refine g_ret ?_
  obtain rfl : x = l.length := by omega
  refine ret1 (.inl rfl) rfl rfl _ (⟨_, skp_end hp hs, rfl, rfl⟩) (tO)

theorem tok_letO {p : Nat} {c : UInt8} {r : By} {t : Tk} (h : tok p (c :: r) = .ok t) (h1 : isLet c = true) : spn isIn (c :: r) ≤ 16 ∧ t = ⟨1, (c :: r).take (spn isIn (c :: r)), 0, p⟩ := by
  rcases tok_cases h with ⟨_, h2, h3⟩ | ⟨h2, _⟩ | ⟨h2, _⟩
  · exact ⟨h2, h3⟩
  · rw [h1] at h2; cases h2
  · rw [h1] at h2; cases h2
theorem tok_digO {p : Nat} {c : UInt8} {r : By} {t : Tk} (h : tok p (c :: r) = .ok t) (h1 : isLet c = false) (h2 : isDig c = true) : num ((c :: r).take (spn isDig (c :: r))) ≤ 65535 ∧ nextIn ((c :: r).drop (spn isDig (c :: r))) = false ∧ t = ⟨2, (c :: r).take (spn isDig (c :: r)), num ((c :: r).take (spn isDig (c :: r))), p⟩ := by
  rcases tok_cases h with ⟨h3, _⟩ | ⟨_, _, h3, h4, h5⟩ | ⟨_, h3, _⟩
  · rw [h1] at h3; cases h3
  · exact ⟨h3, h4, h5⟩
  · rw [h2] at h3; cases h3
theorem tok_sgnO {p : Nat} {c : UInt8} {r : By} {t : Tk} (h : tok p (c :: r) = .ok t) (h1 : isLet c = false) (h2 : isDig c = false) : (c.toNat = 123 ∨ c.toNat = 125 ∨ c.toNat = 59) ∧ t = ⟨3, [c], 0, p⟩ := by
  rcases tok_cases h with ⟨h3, _⟩ | ⟨_, h3, _⟩ | ⟨_, _, h3, h4⟩
  · rw [h1] at h3; cases h3
  · rw [h2] at h3; cases h3
  · unfold isSign at h3; exact ⟨of_decide_eq_true h3, h4⟩
theorem tok_letE {p : Nat} {c : UInt8} {r : By} {e : Err} (h : tok p (c :: r) = .error e) (h1 : isLet c = true) : 16 < spn isIn (c :: r) ∧ e = (22, p) := by
  rw [tok_eq, if_pos h1] at h
  split at h
  · rename_i h2; injection h with h; exact ⟨h2, h.symm⟩
  · cases h
theorem tok_digE {p : Nat} {c : UInt8} {r : By} {e : Err} (h : tok p (c :: r) = .error e) (h1 : isLet c = false) (h2 : isDig c = true) : (65535 < num ((c :: r).take (spn isDig (c :: r))) ∨ nextIn ((c :: r).drop (spn isDig (c :: r))) = true) ∧ e = (21, p) := by
  rw [tok_eq, if_neg (by rw [h1]; decide), if_pos h2] at h
  split at h
  · rename_i h2; injection h with h; exact ⟨h2, h.symm⟩
  · cases h
theorem tok_sgnE {p : Nat} {c : UInt8} {r : By} {e : Err} (h : tok p (c :: r) = .error e) (h1 : isLet c = false) (h2 : isDig c = false) : ¬ (c.toNat = 123 ∨ c.toNat = 125 ∨ c.toNat = 59) ∧ e = (20, p) := by
  rw [tok_eq, if_neg (by rw [h1]; decide), if_neg (by rw [h2]; decide)] at h
  split at h
  · cases h
  · rename_i h3; injection h with h; unfold isSign at h3; rw [decide_eq_true_eq] at h3; exact ⟨h3, h.symm⟩
theorem take_dig {c : UInt8} {r : By} (h : isDig c = true) : (c :: r).take (spn isDig (c :: r)) ≠ [] := by rw [spn_cons h, List.take_succ_cons]; simp
theorem next_at {c d : UInt8} {r : By} {k : Nat} (h : (c :: r)[k]? = some d) : nextIn ((c :: r).drop k) = isIn d := by rw [drop_at h]; rfl
theorem next_end {l : By} {k : Nat} (h : nextIn (l.drop k) = true) : k < l.length := by
  rcases Nat.lt_or_ge k l.length with x | x
  · exact x
  · rw [List.drop_eq_nil_of_le x] at h; cases h

set_option maxRecDepth 8000 in
theorem token_ok {W : World} (hG : Gok W) (l : By) (p : Nat) (c : UInt8) (r : By) (hc : l.drop p = c :: r) (hl : l.length ≤ 16384) (t : Tk) (ht : tok p (c :: r) = .ok t) : FnS Tryz.prog 55 [S l, I64 p] [base W] (fun u Bs => u = .tuple #[.agg (tkC t).toArray, .nilIface] ∧ Bs = [base W]) := by
 refine fn_body Tryz.func55 rfl rfl rfl ?_
 intro W0 R
 simp only [List.zipIdx_cons, List.zipIdx_nil, List.map_cons, List.map_nil, Nat.zero_add, Nat.reduceAdd, List.cons_append, List.nil_append]
 have hp := (List.getElem?_eq_some_iff.1 (get_cons hc)).1
 have hlen : r.length + 1 ≤ l.length := by have := congrArg List.length hc; rw [List.length_drop, List.length_cons] at this; omega
 have hs1 := spn_le isIn (c :: r); have hs2 := spn_le isDig (c :: r)
 simp only [List.length_cons] at hs1 hs2
 refine g_seq ?_
 refine g_region ?_
 refine gl_n rfl (o_alloc) ?_
 rintro _ _ ⟨b4, rfl, rfl⟩
 refine gl_v rfl (o_assign rfl) ?_
 refine gl_nil ?_
 refine ge_then ?_
 refine g_seq ?_
 refine g_region ?_
 refine gl_v rfl (o_move rfl) ?_
 refine gl_v rfl (o_move rfl) ?_
 refine gl_v rfl (o_strFrom rfl rfl (by omega)) ?_
 rw [hc]
 refine gl_v rfl (o_assign rfl) ?_
 refine gl_nil ?_
 refine ge_then ?_
 refine g_seq ?_
 refine g_region ?_
 refine gl_v rfl (o_move rfl) ?_
 refine gl_v rfl (o_index_string rfl rfl (rfl)) ?_
 refine gl_v rfl (o_assign rfl) ?_
 refine gl_nil ?_
 refine ge_then ?_
 refine g_seq ?_
 refine g_block ?_
 refine g_seq ?_
 refine g_region ?_
 refine gl_v rfl (o_move rfl) ?_
 refine gl_c rfl (o_call rfl (letter_spec c) pA) ?_
 rintro _ R ⟨_, ⟨rfl, rfl⟩, rfl⟩
 try simp only [List.cons_append, List.nil_append]
 refine gl_v rfl (o_assign rfl) ?_
 refine gl_nil ?_
 refine ge_then ?_
 refine g_cond rfl (fun hc1 => ?_) (fun hc1 => ?_)
 ·
  replace hc1 := hs_ hc1
  have hlet : isLet c = true := hc1
  obtain ⟨hk, rfl⟩ := tok_letO ht hlet
  refine g_seq ?_
  refine g_region ?_
  refine gl_v rfl (o_move rfl) ?_
  refine gl_v rfl (o_move rfl) ?_
  refine gl_c rfl (o_call rfl (span_spec isIn 70 (fun c => inner_spec c) (c :: r) (by simp only [List.length_cons, List.length_drop] at *; omega)) pA) ?_
  rintro _ R ⟨_, ⟨rfl, rfl⟩, rfl⟩
  try simp only [List.cons_append, List.nil_append]
  refine gl_v rfl (o_strTo rfl rfl (spn_le _ _)) ?_
  refine gl_v rfl (o_assign rfl) ?_
  refine gl_nil ?_
  refine ge_then ?_
  refine g_seq ?_
  refine g_seq ?_
  refine g_region ?_
  refine gl_v rfl (o_move rfl) ?_
  refine gl_c rfl (o_call rfl (Name_spec _ (by rw [List.length_take]; omega)) pA) ?_
  rintro _ R ⟨_, ⟨rfl, rfl⟩, rfl⟩
  try simp only [List.cons_append, List.nil_append]
  rw [name_take hlet, decide_eq_true hk]
  refine gl_v rfl (o_not rfl) ?_
  refine gl_nil ?_
  refine ge_then ?_
  refine g_cond_false (rfl) ?_
  refine g_skip ?_
  refine ge_then ?_
  refine g_seq ?_
  refine g_region ?_
  refine gl_v rfl (o_move rfl) ?_
  refine gl_v rfl (o_move rfl) ?_
  refine gl_v rfl (o_build rfl rfl) ?_
  first | refine gl_u (o_storeSA rfl rfl rfl rfl (by simp; omega) (by simp)) ?_ | refine gl_u (o_storeA rfl rfl rfl rfl rfl) ?_
  refine gl_v rfl (o_assign rfl) ?_
  refine gl_nil ?_
  refine ge_then ?_
  refine g_ret ?_
  refine ge_block_ret ?_
  refine ge_then_ret ?_
  exact ret2c (.inl rfl) rfl rfl rfl rfl [base W] ⟨rfl, rfl⟩ (tO)
 ·
  replace hc1 := hs_ hc1
  have hlet : isLet c = false := hc1
  refine g_seq ?_
  refine g_region ?_
  refine gl_v rfl (o_move rfl) ?_
  refine gl_c rfl (o_call rfl (digit_spec c) pA) ?_
  rintro _ R ⟨_, ⟨rfl, rfl⟩, rfl⟩
  try simp only [List.cons_append, List.nil_append]
  refine gl_v rfl (o_assign rfl) ?_
  refine gl_nil ?_
  refine ge_then ?_
  refine g_cond rfl (fun hc2 => ?_) (fun hc2 => ?_)
  ·
   replace hc2 := hs_ hc2
   have hdig : isDig c = true := hc2
   obtain ⟨hn, hnx0, rfl⟩ := tok_digO ht hlet hdig
   refine g_seq ?_
   refine g_region ?_
   refine gl_v rfl (o_move rfl) ?_
   refine gl_c rfl (o_call rfl (span_spec isDig 82 (fun c => digit_spec c) (c :: r) (by simp only [List.length_cons, List.length_drop] at *; omega)) pA) ?_
   rintro _ R ⟨_, ⟨rfl, rfl⟩, rfl⟩
   try simp only [List.cons_append, List.nil_append]
   refine gl_v rfl (o_assign rfl) ?_
   refine gl_nil ?_
   refine ge_then ?_
   refine g_seq ?_
   refine g_region ?_
   refine gl_v rfl (o_move rfl) ?_
   refine gl_v rfl (o_move rfl) ?_
   refine gl_v rfl (o_strTo rfl rfl (spn_le _ _)) ?_
   refine gl_c rfl (o_call rfl (PU_ok (take_dig hdig) (spn_take isDig (c :: r)) (by rw [List.length_take]; omega) hn) pA) ?_
   rintro _ R ⟨_, ⟨rfl, rfl⟩, rfl⟩
   try simp only [List.cons_append, List.nil_append]
   refine gl_v rfl (o_move rfl) ?_
   refine gl_v rfl (o_extract rfl rfl) ?_
   refine gl_v rfl (o_extract rfl rfl) ?_
   refine gl_v rfl (o_assign rfl) ?_
   refine gl_v rfl (o_assign rfl) ?_
   refine gl_nil ?_
   refine ge_then ?_
   refine g_seq ?_
   refine g_seq ?_
   refine g_region ?_
   refine gl_v rfl (o_move rfl) ?_
   refine gl_v rfl (o_neqnI rfl) ?_
   refine gl_v rfl (o_move rfl) ?_
   refine gl_gT rfl rfl rfl ?_
   refine gl_v rfl (o_move rfl) ?_
   refine gl_gT rfl rfl rfl ?_
   refine gl_v rfl (o_move rfl) ?_
   refine gl_gT rfl rfl rfl ?_
   refine gl_v rfl (o_lens rfl) ?_
   refine gl_gT rfl rfl rfl ?_
   refine gl_v rfl (o_lss rfl rfl) ?_
   refine gl_gT rfl rfl rfl ?_
   refine gl_v rfl (o_move rfl) ?_
   refine gl_g rfl rfl (fun hc3 => ?_) (fun hc3 => ?_) rfl
   ·
    have hc3' := hc3
    replace hc3' := hs_ hc3'
    refine gl_v rfl (o_move rfl) ?_
    refine gl_gT rfl rfl hc3 ?_
    refine gl_v rfl (o_move rfl) ?_
    refine gl_gT rfl rfl hc3 ?_
    obtain ⟨d, hd⟩ : ∃ d, (c :: r)[spn isDig (c :: r)]? = some d := ⟨_, List.getElem?_eq_getElem (by simp only [List.length_cons] at *; omega)⟩
    have hnx : isIn d = false := by rw [← next_at hd]; exact hnx0
    refine gl_v rfl (o_index_string rfl rfl (hd)) ?_
    refine gl_gT rfl rfl hc3 ?_
    refine gl_c rfl (o_call rfl (inner_spec d) pA) ?_
    rintro _ R ⟨_, ⟨rfl, rfl⟩, rfl⟩
    try simp only [List.cons_append, List.nil_append]
    rw [hnx]
    refine gl_gT rfl rfl rfl ?_
    refine gl_v rfl (o_pickT hc3 rfl rfl) ?_
    refine gl_v rfl (o_pickF rfl rfl rfl) ?_
    refine gl_nil ?_
    refine ge_then ?_
    refine g_cond_false (rfl) ?_
    refine g_skip ?_
    refine ge_then ?_
    refine g_seq ?_
    refine g_region ?_
    refine gl_v rfl (o_move rfl) ?_
    refine gl_v rfl (o_move rfl) ?_
    refine gl_v rfl (o_strTo rfl rfl (spn_le _ _)) ?_
    refine gl_v rfl (o_move rfl) ?_
    refine gl_v rfl (o_convR _ (by first | exact wr_i64 (by omega) | rfl) rfl) ?_
    refine gl_v rfl (o_move rfl) ?_
    refine gl_v rfl (o_build rfl rfl) ?_
    first | refine gl_u (o_storeSA rfl rfl rfl rfl (by simp; omega) (by simp)) ?_ | refine gl_u (o_storeA rfl rfl rfl rfl rfl) ?_
    refine gl_v rfl (o_assign rfl) ?_
    refine gl_nil ?_
    refine ge_then ?_
    refine g_ret ?_
    refine ge_block_ret ?_
    refine ge_then_ret ?_
    exact ret2c (.inl rfl) rfl rfl rfl rfl [base W] ⟨rfl, rfl⟩ (tO)
   ·
    have hc3' := hc3
    replace hc3' := hs_ hc3'
    simp only [putO]
    refine gl_gF rfl rfl hc3 rfl ?_
    refine gl_gF rfl rfl hc3 rfl ?_
    refine gl_gF rfl rfl hc3 rfl ?_
    refine gl_gT rfl rfl rfl ?_
    refine gl_v rfl (o_pickF hc3 rfl rfl) ?_
    refine gl_v rfl (o_pickF rfl rfl rfl) ?_
    refine gl_nil ?_
    refine ge_then ?_
    refine g_cond_false rfl ?_
    refine g_skip ?_
    refine ge_then ?_
    refine g_seq ?_
    refine g_region ?_
    refine gl_v rfl (o_move rfl) ?_
    refine gl_v rfl (o_move rfl) ?_
    refine gl_v rfl (o_strTo rfl rfl (spn_le _ _)) ?_
    refine gl_v rfl (o_move rfl) ?_
    refine gl_v rfl (o_convR _ (by first | exact wr_i64 (by omega) | rfl) rfl) ?_
    refine gl_v rfl (o_move rfl) ?_
    refine gl_v rfl (o_build rfl rfl) ?_
    first | refine gl_u (o_storeSA rfl rfl rfl rfl (by simp; omega) (by simp)) ?_ | refine gl_u (o_storeA rfl rfl rfl rfl rfl) ?_
    refine gl_v rfl (o_assign rfl) ?_
    refine gl_nil ?_
    refine ge_then ?_
    refine g_ret ?_
    refine ge_block_ret ?_
    refine ge_then_ret ?_
    exact ret2c (.inl rfl) rfl rfl rfl rfl [base W] ⟨rfl, rfl⟩ (tO)
  ·
   replace hc2 := hs_ hc2
   have hdig : isDig c = false := hc2
   obtain ⟨hs, rfl⟩ := tok_sgnO ht hlet hdig
   refine g_seq ?_
   refine g_seq ?_
   rcases hs with hs | hs | hs
   ·
    refine g_region ?_
    refine gl_v rfl (o_move rfl) ?_
    refine gl_v rfl (o_is (c := true) (by rw [decide_eq_true_eq]; omega) (o_eql rfl rfl)) ?_
    refine gl_v rfl (o_assign rfl) ?_
    refine gl_nil ?_
    refine ge_then ?_
    refine g_cond_true rfl ?_
    refine g_skip ?_
    refine ge_then ?_
    refine g_cond_true rfl ?_
    refine g_seq ?_
    refine g_region ?_
    refine gl_v rfl (o_move rfl) ?_
    refine gl_v rfl (o_strTo (i := 1) rfl rfl (by simp)) ?_
    refine gl_v rfl (o_move rfl) ?_
    refine gl_v rfl (o_build rfl rfl) ?_
    first | refine gl_u (o_storeSA rfl rfl rfl rfl (by simp; omega) (by simp)) ?_ | refine gl_u (o_storeA rfl rfl rfl rfl rfl) ?_
    refine gl_v rfl (o_assign rfl) ?_
    refine gl_nil ?_
    refine ge_then ?_
    refine g_ret ?_
    refine ge_block_ret ?_
    refine ge_then_ret ?_
    exact ret2c (.inl rfl) rfl rfl rfl rfl [base W] ⟨rfl, rfl⟩ (tO)
   ·
    refine g_region ?_
    refine gl_v rfl (o_move rfl) ?_
    refine gl_v rfl (o_is (c := false) (by rw [decide_eq_false_iff_not]; omega) (o_eql rfl rfl)) ?_
    refine gl_v rfl (o_assign rfl) ?_
    refine gl_nil ?_
    refine ge_then ?_
    refine g_cond_false rfl ?_
    refine g_seq ?_
    refine g_region ?_
    refine gl_v rfl (o_move rfl) ?_
    refine gl_v rfl (o_is (c := true) (by rw [decide_eq_true_eq]; omega) (o_eql rfl rfl)) ?_
    refine gl_v rfl (o_assign rfl) ?_
    refine gl_nil ?_
    refine ge_then ?_
    refine g_cond_true rfl ?_
    refine g_skip ?_
    refine ge_then ?_
    refine g_cond_true rfl ?_
    refine g_seq ?_
    refine g_region ?_
    refine gl_v rfl (o_move rfl) ?_
    refine gl_v rfl (o_strTo (i := 1) rfl rfl (by simp)) ?_
    refine gl_v rfl (o_move rfl) ?_
    refine gl_v rfl (o_build rfl rfl) ?_
    first | refine gl_u (o_storeSA rfl rfl rfl rfl (by simp; omega) (by simp)) ?_ | refine gl_u (o_storeA rfl rfl rfl rfl rfl) ?_
    refine gl_v rfl (o_assign rfl) ?_
    refine gl_nil ?_
    refine ge_then ?_
    refine g_ret ?_
    refine ge_block_ret ?_
    refine ge_then_ret ?_
    exact ret2c (.inl rfl) rfl rfl rfl rfl [base W] ⟨rfl, rfl⟩ (tO)
   ·
    refine g_region ?_
    refine gl_v rfl (o_move rfl) ?_
    refine gl_v rfl (o_is (c := false) (by rw [decide_eq_false_iff_not]; omega) (o_eql rfl rfl)) ?_
    refine gl_v rfl (o_assign rfl) ?_
    refine gl_nil ?_
    refine ge_then ?_
    refine g_cond_false rfl ?_
    refine g_seq ?_
    refine g_region ?_
    refine gl_v rfl (o_move rfl) ?_
    refine gl_v rfl (o_is (c := false) (by rw [decide_eq_false_iff_not]; omega) (o_eql rfl rfl)) ?_
    refine gl_v rfl (o_assign rfl) ?_
    refine gl_nil ?_
    refine ge_then ?_
    refine g_cond_false rfl ?_
    refine g_region ?_
    refine gl_v rfl (o_move rfl) ?_
    refine gl_v rfl (o_is (c := true) (by rw [decide_eq_true_eq]; omega) (o_eql rfl rfl)) ?_
    refine gl_v rfl (o_assign rfl) ?_
    refine gl_nil ?_
    refine ge_then ?_
    refine g_cond_true rfl ?_
    refine g_seq ?_
    refine g_region ?_
    refine gl_v rfl (o_move rfl) ?_
    refine gl_v rfl (o_strTo (i := 1) rfl rfl (by simp)) ?_
    refine gl_v rfl (o_move rfl) ?_
    refine gl_v rfl (o_build rfl rfl) ?_
    first | refine gl_u (o_storeSA rfl rfl rfl rfl (by simp; omega) (by simp)) ?_ | refine gl_u (o_storeA rfl rfl rfl rfl rfl) ?_
    refine gl_v rfl (o_assign rfl) ?_
    refine gl_nil ?_
    refine ge_then ?_
    refine g_ret ?_
    refine ge_block_ret ?_
    refine ge_then_ret ?_
    exact ret2c (.inl rfl) rfl rfl rfl rfl [base W] ⟨rfl, rfl⟩ (tO)

set_option maxRecDepth 8000 in
theorem token_err0 {W : World} (hG : Gok W) (l : By) (p : Nat) (c : UInt8) (r : By) (hc : l.drop p = c :: r) (hl : l.length ≤ 16384) (e : Err) (ht : tok p (c :: r) = .error e) (hnd : isDig c = false) : FnS Tryz.prog 55 [S l, I64 p] [base W] (fun u Bs => ∃ b : Nat, u = .tuple #[.agg (tkC ⟨0, [], 0, 0⟩).toArray, errV b] ∧ Bs = [errM b e, base W]) := by
 refine fn_body Tryz.func55 rfl rfl rfl ?_
 intro W0 R
 simp only [List.zipIdx_cons, List.zipIdx_nil, List.map_cons, List.map_nil, Nat.zero_add, Nat.reduceAdd, List.cons_append, List.nil_append]
 have hp := (List.getElem?_eq_some_iff.1 (get_cons hc)).1
 have hlen : r.length + 1 ≤ l.length := by have := congrArg List.length hc; rw [List.length_drop, List.length_cons] at this; omega
 have hs1 := spn_le isIn (c :: r); have hs2 := spn_le isDig (c :: r)
 simp only [List.length_cons] at hs1 hs2
 refine g_seq ?_
 refine g_region ?_
 refine gl_n rfl (o_alloc) ?_
 rintro _ _ ⟨b4, rfl, rfl⟩
 refine gl_v rfl (o_assign rfl) ?_
 refine gl_nil ?_
 refine ge_then ?_
 refine g_seq ?_
 refine g_region ?_
 refine gl_v rfl (o_move rfl) ?_
 refine gl_v rfl (o_move rfl) ?_
 refine gl_v rfl (o_strFrom rfl rfl (by omega)) ?_
 rw [hc]
 refine gl_v rfl (o_assign rfl) ?_
 refine gl_nil ?_
 refine ge_then ?_
 refine g_seq ?_
 refine g_region ?_
 refine gl_v rfl (o_move rfl) ?_
 refine gl_v rfl (o_index_string rfl rfl (rfl)) ?_
 refine gl_v rfl (o_assign rfl) ?_
 refine gl_nil ?_
 refine ge_then ?_
 refine g_seq ?_
 refine g_block ?_
 refine g_seq ?_
 refine g_region ?_
 refine gl_v rfl (o_move rfl) ?_
 refine gl_c rfl (o_call rfl (letter_spec c) pA) ?_
 rintro _ R ⟨_, ⟨rfl, rfl⟩, rfl⟩
 try simp only [List.cons_append, List.nil_append]
 refine gl_v rfl (o_assign rfl) ?_
 refine gl_nil ?_
 refine ge_then ?_
 refine g_cond rfl (fun hc1 => ?_) (fun hc1 => ?_)
 ·
  replace hc1 := hs_ hc1
  have hlet : isLet c = true := hc1
  obtain ⟨hk, rfl⟩ := tok_letE ht hlet
  refine g_seq ?_
  refine g_region ?_
  refine gl_v rfl (o_move rfl) ?_
  refine gl_v rfl (o_move rfl) ?_
  refine gl_c rfl (o_call rfl (span_spec isIn 70 (fun c => inner_spec c) (c :: r) (by simp only [List.length_cons, List.length_drop] at *; omega)) pA) ?_
  rintro _ R ⟨_, ⟨rfl, rfl⟩, rfl⟩
  try simp only [List.cons_append, List.nil_append]
  refine gl_v rfl (o_strTo rfl rfl (spn_le _ _)) ?_
  refine gl_v rfl (o_assign rfl) ?_
  refine gl_nil ?_
  refine ge_then ?_
  refine g_seq ?_
  refine g_seq ?_
  refine g_region ?_
  refine gl_v rfl (o_move rfl) ?_
  refine gl_c rfl (o_call rfl (Name_spec _ (by rw [List.length_take]; omega)) pA) ?_
  rintro _ R ⟨_, ⟨rfl, rfl⟩, rfl⟩
  try simp only [List.cons_append, List.nil_append]
  rw [name_take hlet, decide_eq_false (by omega)]
  refine gl_v rfl (o_not rfl) ?_
  refine gl_nil ?_
  refine ge_then ?_
  refine g_cond_true (rfl) ?_
  refine g_seq ?_
  refine g_region ?_
  refine gl_v rfl (o_build rfl rfl) ?_
  refine gl_v rfl (o_move rfl) ?_
  refine gl_v rfl (o_build rfl rfl) ?_
  refine gl_n rfl (o_boxA rfl) ?_
  rintro _ _ ⟨b30, rfl, rfl⟩
  refine gl_v rfl (o_iface Tryz.underlying65 rfl rfl) ?_
  first | refine gl_u (o_storeSA rfl rfl rfl rfl (by simp; omega) (by simp)) ?_ | refine gl_u (o_storeA rfl rfl rfl rfl rfl) ?_
  refine gl_v rfl (o_assign rfl) ?_
  refine gl_nil ?_
  refine ge_then ?_
  refine g_ret ?_
  refine ge_then_ret ?_
  refine ge_block_ret ?_
  refine ge_then_ret ?_
  exact ret2c (.inl rfl) rfl rfl rfl rfl [errM b30 (22, p), base W] ⟨_, rfl, rfl⟩ (tO)
 ·
  replace hc1 := hs_ hc1
  have hlet : isLet c = false := hc1
  obtain ⟨hs, rfl⟩ := tok_sgnE ht hlet hnd
  refine g_seq ?_
  refine g_region ?_
  refine gl_v rfl (o_move rfl) ?_
  refine gl_c rfl (o_call rfl (digit_spec c) pA) ?_
  rintro _ R ⟨_, ⟨rfl, rfl⟩, rfl⟩
  try simp only [List.cons_append, List.nil_append]
  rw [hnd]
  refine gl_v rfl (o_assign rfl) ?_
  refine gl_nil ?_
  refine ge_then ?_
  refine g_cond_false (rfl) ?_
  refine g_seq ?_
  refine g_seq ?_
  refine g_region ?_
  refine gl_v rfl (o_move rfl) ?_
  refine gl_v rfl (o_is (c := false) (by rw [decide_eq_false_iff_not]; omega) (o_eql rfl rfl)) ?_
  refine gl_v rfl (o_assign rfl) ?_
  refine gl_nil ?_
  refine ge_then ?_
  refine g_cond_false rfl ?_
  refine g_seq ?_
  refine g_region ?_
  refine gl_v rfl (o_move rfl) ?_
  refine gl_v rfl (o_is (c := false) (by rw [decide_eq_false_iff_not]; omega) (o_eql rfl rfl)) ?_
  refine gl_v rfl (o_assign rfl) ?_
  refine gl_nil ?_
  refine ge_then ?_
  refine g_cond_false rfl ?_
  refine g_region ?_
  refine gl_v rfl (o_move rfl) ?_
  refine gl_v rfl (o_is (c := false) (by rw [decide_eq_false_iff_not]; omega) (o_eql rfl rfl)) ?_
  refine gl_v rfl (o_assign rfl) ?_
  refine gl_nil ?_
  refine ge_then ?_
  refine g_cond_false rfl ?_
  refine g_skip ?_
  refine ge_block ?_
  refine ge_then ?_
  refine g_seq ?_
  refine g_region ?_
  refine gl_v rfl (o_build rfl rfl) ?_
  refine gl_v rfl (o_move rfl) ?_
  refine gl_v rfl (o_build rfl rfl) ?_
  refine gl_n rfl (o_boxA rfl) ?_
  rintro _ _ ⟨b87, rfl, rfl⟩
  refine gl_v rfl (o_iface Tryz.underlying65 rfl rfl) ?_
  first | refine gl_u (o_storeSA rfl rfl rfl rfl (by simp; omega) (by simp)) ?_ | refine gl_u (o_storeA rfl rfl rfl rfl rfl) ?_
  refine gl_v rfl (o_assign rfl) ?_
  refine gl_nil ?_
  refine ge_then ?_
  refine g_ret ?_
  exact ret2c (.inl rfl) rfl rfl rfl rfl [errM b87 (20, p), base W] ⟨_, rfl, rfl⟩ (tO)

set_option maxRecDepth 8000 in
theorem token_err1 {W : World} (hG : Gok W) (l : By) (p : Nat) (c : UInt8) (r : By) (hc : l.drop p = c :: r) (hl : l.length ≤ 16384) (e : Err) (ht : tok p (c :: r) = .error e) (hdig : isDig c = true) (hn : 65535 < num ((c :: r).take (spn isDig (c :: r)))) : FnS Tryz.prog 55 [S l, I64 p] [base W] (fun u Bs => ∃ b : Nat, u = .tuple #[.agg (tkC ⟨0, [], 0, 0⟩).toArray, errV b] ∧ Bs = [errM b e, base W]) := by
 refine fn_body Tryz.func55 rfl rfl rfl ?_
 intro W0 R
 simp only [List.zipIdx_cons, List.zipIdx_nil, List.map_cons, List.map_nil, Nat.zero_add, Nat.reduceAdd, List.cons_append, List.nil_append]
 have hp := (List.getElem?_eq_some_iff.1 (get_cons hc)).1
 have hlen : r.length + 1 ≤ l.length := by have := congrArg List.length hc; rw [List.length_drop, List.length_cons] at this; omega
 have hs1 := spn_le isIn (c :: r); have hs2 := spn_le isDig (c :: r)
 simp only [List.length_cons] at hs1 hs2
 have hlet := dig_let hdig
 obtain ⟨_, rfl⟩ := tok_digE ht hlet hdig
 refine g_seq ?_
 refine g_region ?_
 refine gl_n rfl (o_alloc) ?_
 rintro _ _ ⟨b4, rfl, rfl⟩
 refine gl_v rfl (o_assign rfl) ?_
 refine gl_nil ?_
 refine ge_then ?_
 refine g_seq ?_
 refine g_region ?_
 refine gl_v rfl (o_move rfl) ?_
 refine gl_v rfl (o_move rfl) ?_
 refine gl_v rfl (o_strFrom rfl rfl (by omega)) ?_
 rw [hc]
 refine gl_v rfl (o_assign rfl) ?_
 refine gl_nil ?_
 refine ge_then ?_
 refine g_seq ?_
 refine g_region ?_
 refine gl_v rfl (o_move rfl) ?_
 refine gl_v rfl (o_index_string rfl rfl (rfl)) ?_
 refine gl_v rfl (o_assign rfl) ?_
 refine gl_nil ?_
 refine ge_then ?_
 refine g_seq ?_
 refine g_block ?_
 refine g_seq ?_
 refine g_region ?_
 refine gl_v rfl (o_move rfl) ?_
 refine gl_c rfl (o_call rfl (letter_spec c) pA) ?_
 rintro _ R ⟨_, ⟨rfl, rfl⟩, rfl⟩
 try simp only [List.cons_append, List.nil_append]
 rw [hlet]
 refine gl_v rfl (o_assign rfl) ?_
 refine gl_nil ?_
 refine ge_then ?_
 refine g_cond_false (rfl) ?_
 refine g_seq ?_
 refine g_region ?_
 refine gl_v rfl (o_move rfl) ?_
 refine gl_c rfl (o_call rfl (digit_spec c) pA) ?_
 rintro _ R ⟨_, ⟨rfl, rfl⟩, rfl⟩
 try simp only [List.cons_append, List.nil_append]
 rw [hdig]
 refine gl_v rfl (o_assign rfl) ?_
 refine gl_nil ?_
 refine ge_then ?_
 refine g_cond_true (rfl) ?_
 refine g_seq ?_
 refine g_region ?_
 refine gl_v rfl (o_move rfl) ?_
 refine gl_c rfl (o_call rfl (span_spec isDig 82 (fun c => digit_spec c) (c :: r) (by simp only [List.length_cons, List.length_drop] at *; omega)) pA) ?_
 rintro _ R ⟨_, ⟨rfl, rfl⟩, rfl⟩
 try simp only [List.cons_append, List.nil_append]
 refine gl_v rfl (o_assign rfl) ?_
 refine gl_nil ?_
 refine ge_then ?_
 refine g_seq ?_
 refine g_region ?_
 refine gl_v rfl (o_move rfl) ?_
 refine gl_v rfl (o_move rfl) ?_
 refine gl_v rfl (o_strTo rfl rfl (spn_le _ _)) ?_
 refine gl_c rfl (o_call rfl (PU_range hG.v_strconv_ErrRange (take_dig hdig) (spn_take isDig (c :: r)) (by rw [List.length_take]; omega) hn) pA) ?_
 rintro _ R ⟨_, ⟨t1, p1, rfl, rfl⟩, rfl⟩
 try simp only [List.cons_append, List.nil_append]
 refine gl_v rfl (o_move rfl) ?_
 refine gl_v rfl (o_extract rfl rfl) ?_
 refine gl_v rfl (o_extract rfl rfl) ?_
 refine gl_v rfl (o_assign rfl) ?_
 refine gl_v rfl (o_assign rfl) ?_
 refine gl_nil ?_
 refine ge_then ?_
 refine g_seq ?_
 refine g_seq ?_
 refine g_region ?_
 refine gl_v rfl (o_move rfl) ?_
 refine gl_v rfl (o_neqIn rfl) ?_
 refine gl_v rfl (o_move rfl) ?_
 refine gl_gF rfl rfl rfl rfl ?_
 refine gl_gF rfl rfl rfl rfl ?_
 refine gl_gF rfl rfl rfl rfl ?_
 refine gl_gF rfl rfl rfl rfl ?_
 refine gl_gF rfl rfl rfl rfl ?_
 refine gl_gU rfl rfl rfl ?_
 refine gl_gU rfl rfl rfl ?_
 refine gl_gU rfl rfl rfl ?_
 refine gl_gU rfl rfl rfl ?_
 refine gl_gF rfl rfl rfl rfl ?_
 refine gl_v rfl (o_pickT rfl rfl rfl) ?_
 refine gl_nil ?_
 refine ge_then ?_
 refine g_cond_true rfl ?_
 refine g_seq ?_
 refine g_region ?_
 refine gl_v rfl (o_build rfl rfl) ?_
 refine gl_v rfl (o_move rfl) ?_
 refine gl_v rfl (o_build rfl rfl) ?_
 refine gl_n rfl (o_boxA rfl) ?_
 rintro _ _ ⟨b64, rfl, rfl⟩
 refine gl_v rfl (o_iface Tryz.underlying65 rfl rfl) ?_
 first | refine gl_u (o_storeSA rfl rfl rfl rfl (by simp; omega) (by simp)) ?_ | refine gl_u (o_storeA rfl rfl rfl rfl rfl) ?_
 refine gl_v rfl (o_assign rfl) ?_
 refine gl_nil ?_
 refine ge_then ?_
 refine g_ret ?_
 refine ge_then_ret ?_
 refine ge_block_ret ?_
 refine ge_then_ret ?_
 exact ret2c (.inl rfl) rfl rfl rfl rfl [errM b64 (21, p), base W] ⟨_, rfl, rfl⟩ (tO)

set_option maxRecDepth 8000 in
theorem token_err2 {W : World} (hG : Gok W) (l : By) (p : Nat) (c : UInt8) (r : By) (hc : l.drop p = c :: r) (hl : l.length ≤ 16384) (e : Err) (ht : tok p (c :: r) = .error e) (hdig : isDig c = true) (hn : num ((c :: r).take (spn isDig (c :: r))) ≤ 65535) (hnx0 : nextIn ((c :: r).drop (spn isDig (c :: r))) = true) : FnS Tryz.prog 55 [S l, I64 p] [base W] (fun u Bs => ∃ b : Nat, u = .tuple #[.agg (tkC ⟨0, [], 0, 0⟩).toArray, errV b] ∧ Bs = [errM b e, base W]) := by
 refine fn_body Tryz.func55 rfl rfl rfl ?_
 intro W0 R
 simp only [List.zipIdx_cons, List.zipIdx_nil, List.map_cons, List.map_nil, Nat.zero_add, Nat.reduceAdd, List.cons_append, List.nil_append]
 have hp := (List.getElem?_eq_some_iff.1 (get_cons hc)).1
 have hlen : r.length + 1 ≤ l.length := by have := congrArg List.length hc; rw [List.length_drop, List.length_cons] at this; omega
 have hs1 := spn_le isIn (c :: r); have hs2 := spn_le isDig (c :: r)
 simp only [List.length_cons] at hs1 hs2
 have hlet := dig_let hdig
 obtain ⟨_, rfl⟩ := tok_digE ht hlet hdig
 have hlt := next_end hnx0
 obtain ⟨d, hd⟩ : ∃ d, (c :: r)[spn isDig (c :: r)]? = some d := ⟨_, List.getElem?_eq_getElem hlt⟩
 have hnx : isIn d = true := by rw [← next_at hd]; exact hnx0
 refine g_seq ?_
 refine g_region ?_
 refine gl_n rfl (o_alloc) ?_
 rintro _ _ ⟨b4, rfl, rfl⟩
 refine gl_v rfl (o_assign rfl) ?_
 refine gl_nil ?_
 refine ge_then ?_
 refine g_seq ?_
 refine g_region ?_
 refine gl_v rfl (o_move rfl) ?_
 refine gl_v rfl (o_move rfl) ?_
 refine gl_v rfl (o_strFrom rfl rfl (by omega)) ?_
 rw [hc]
 refine gl_v rfl (o_assign rfl) ?_
 refine gl_nil ?_
 refine ge_then ?_
 refine g_seq ?_
 refine g_region ?_
 refine gl_v rfl (o_move rfl) ?_
 refine gl_v rfl (o_index_string rfl rfl (rfl)) ?_
 refine gl_v rfl (o_assign rfl) ?_
 refine gl_nil ?_
 refine ge_then ?_
 refine g_seq ?_
 refine g_block ?_
 refine g_seq ?_
 refine g_region ?_
 refine gl_v rfl (o_move rfl) ?_
 refine gl_c rfl (o_call rfl (letter_spec c) pA) ?_
 rintro _ R ⟨_, ⟨rfl, rfl⟩, rfl⟩
 try simp only [List.cons_append, List.nil_append]
 rw [hlet]
 refine gl_v rfl (o_assign rfl) ?_
 refine gl_nil ?_
 refine ge_then ?_
 refine g_cond_false (rfl) ?_
 refine g_seq ?_
 refine g_region ?_
 refine gl_v rfl (o_move rfl) ?_
 refine gl_c rfl (o_call rfl (digit_spec c) pA) ?_
 rintro _ R ⟨_, ⟨rfl, rfl⟩, rfl⟩
 try simp only [List.cons_append, List.nil_append]
 rw [hdig]
 refine gl_v rfl (o_assign rfl) ?_
 refine gl_nil ?_
 refine ge_then ?_
 refine g_cond_true (rfl) ?_
 refine g_seq ?_
 refine g_region ?_
 refine gl_v rfl (o_move rfl) ?_
 refine gl_c rfl (o_call rfl (span_spec isDig 82 (fun c => digit_spec c) (c :: r) (by simp only [List.length_cons, List.length_drop] at *; omega)) pA) ?_
 rintro _ R ⟨_, ⟨rfl, rfl⟩, rfl⟩
 try simp only [List.cons_append, List.nil_append]
 refine gl_v rfl (o_assign rfl) ?_
 refine gl_nil ?_
 refine ge_then ?_
 refine g_seq ?_
 refine g_region ?_
 refine gl_v rfl (o_move rfl) ?_
 refine gl_v rfl (o_move rfl) ?_
 refine gl_v rfl (o_strTo rfl rfl (spn_le _ _)) ?_
 refine gl_c rfl (o_call rfl (PU_ok (take_dig hdig) (spn_take isDig (c :: r)) (by rw [List.length_take]; omega) hn) pA) ?_
 rintro _ R ⟨_, ⟨rfl, rfl⟩, rfl⟩
 try simp only [List.cons_append, List.nil_append]
 refine gl_v rfl (o_move rfl) ?_
 refine gl_v rfl (o_extract rfl rfl) ?_
 refine gl_v rfl (o_extract rfl rfl) ?_
 refine gl_v rfl (o_assign rfl) ?_
 refine gl_v rfl (o_assign rfl) ?_
 refine gl_nil ?_
 refine ge_then ?_
 refine g_seq ?_
 refine g_seq ?_
 refine g_region ?_
 refine gl_v rfl (o_move rfl) ?_
 refine gl_v rfl (o_neqnI rfl) ?_
 refine gl_v rfl (o_move rfl) ?_
 refine gl_gT rfl rfl rfl ?_
 refine gl_v rfl (o_move rfl) ?_
 refine gl_gT rfl rfl rfl ?_
 refine gl_v rfl (o_move rfl) ?_
 refine gl_gT rfl rfl rfl ?_
 refine gl_v rfl (o_lens rfl) ?_
 refine gl_gT rfl rfl rfl ?_
 refine gl_v rfl (o_is (c := true) (by rw [decide_eq_true_eq]; simp only [List.length_cons] at *; omega) (o_lss rfl rfl)) ?_
 refine gl_gT rfl rfl rfl ?_
 refine gl_v rfl (o_move rfl) ?_
 refine gl_gT rfl rfl rfl ?_
 refine gl_v rfl (o_move rfl) ?_
 refine gl_gT rfl rfl rfl ?_
 refine gl_v rfl (o_move rfl) ?_
 refine gl_gT rfl rfl rfl ?_
 refine gl_v rfl (o_index_string rfl rfl (hd)) ?_
 refine gl_gT rfl rfl rfl ?_
 refine gl_c rfl (o_call rfl (inner_spec d) pA) ?_
 rintro _ R ⟨_, ⟨rfl, rfl⟩, rfl⟩
 try simp only [List.cons_append, List.nil_append]
 rw [hnx]
 refine gl_gT rfl rfl rfl ?_
 refine gl_v rfl (o_pickT rfl rfl rfl) ?_
 refine gl_v rfl (o_pickF rfl rfl rfl) ?_
 refine gl_nil ?_
 refine ge_then ?_
 refine g_cond_true (rfl) ?_
 refine g_seq ?_
 refine g_region ?_
 refine gl_v rfl (o_build rfl rfl) ?_
 refine gl_v rfl (o_move rfl) ?_
 refine gl_v rfl (o_build rfl rfl) ?_
 refine gl_n rfl (o_boxA rfl) ?_
 rintro _ _ ⟨b64, rfl, rfl⟩
 refine gl_v rfl (o_iface Tryz.underlying65 rfl rfl) ?_
 first | refine gl_u (o_storeSA rfl rfl rfl rfl (by simp; omega) (by simp)) ?_ | refine gl_u (o_storeA rfl rfl rfl rfl rfl) ?_
 refine gl_v rfl (o_assign rfl) ?_
 refine gl_nil ?_
 refine ge_then ?_
 refine g_ret ?_
 refine ge_then_ret ?_
 refine ge_block_ret ?_
 refine ge_then_ret ?_
 exact ret2c (.inl rfl) rfl rfl rfl rfl [errM b64 (21, p), base W] ⟨_, rfl, rfl⟩ (tO)

theorem token_err {W : World} (hG : Gok W) (l : By) (p : Nat) (c : UInt8) (r : By) (hc : l.drop p = c :: r) (hl : l.length ≤ 16384) (e : Err) (ht : tok p (c :: r) = .error e) : FnS Tryz.prog 55 [S l, I64 p] [base W] (fun u Bs => ∃ b : Nat, u = .tuple #[.agg (tkC ⟨0, [], 0, 0⟩).toArray, errV b] ∧ Bs = [errM b e, base W]) := by
  cases hdig : isDig c with
  | false => exact token_err0 hG l p c r hc hl e ht hdig
  | true =>
    by_cases hn : 65535 < num ((c :: r).take (spn isDig (c :: r)))
    · exact token_err1 hG l p c r hc hl e ht hdig hn
    · rcases (tok_digE ht (dig_let hdig) hdig).1 with h | h
      · exact absurd h hn
      · exact token_err2 hG l p c r hc hl e ht hdig (by omega) h

theorem tkC_len (t : Tk) : (tkC t).length = 4 := rfl
theorem tkC_flat (T : List Tk) : (T.flatMap tkC).length = T.length * 4 := flat_length tkC 4 tkC_len T
theorem one_cells (T : List Tk) : (T.flatMap tkC).all Value.oneCell' = true := by
  rw [List.all_eq_true]
  intro x hx
  obtain ⟨t, _, ht⟩ := List.mem_flatMap.1 hx
  simp only [tkC, List.mem_cons, List.not_mem_nil, or_false] at ht
  rcases ht with rfl | rfl | rfl | rfl <;> rfl
theorem flat_snoc (T : List Tk) (t : Tk) : T.flatMap tkC ++ tkC t = (T ++ [t]).flatMap tkC := by simp
abbrev tksA (a : Option Addr) (c : Nat) (T : List Tk) : Assn := own (.slice a T.length c) 118 4 T.length (T.flatMap tkC)
theorem lex_okI {p : Nat} {c : UInt8} {r : By} {Y : List Tk} (h1 : isBlank c = false) (h2 : c.toNat ≠ 35) (h : lex p (c :: r) = .ok Y) : ∃ t Z, tok p (c :: r) = .ok t ∧ Y = t :: Z ∧ lex (p + t.text.length) ((c :: r).drop t.text.length) = .ok Z := by
  cases ht : tok p (c :: r) with
  | error e => rw [lex_err h1 h2 ht] at h; cases h
  | ok t =>
    rw [lex_ok' h1 h2 ht] at h
    obtain ⟨Z, hZ, rfl⟩ := pre_ok h
    exact ⟨t, Z, rfl, rfl, hZ⟩
theorem lex_errI {p : Nat} {c : UInt8} {r : By} {e : Err} (h1 : isBlank c = false) (h2 : c.toNat ≠ 35) (h : lex p (c :: r) = .error e) : (∃ t, tok p (c :: r) = .ok t ∧ lex (p + t.text.length) ((c :: r).drop t.text.length) = .error e) ∨ tok p (c :: r) = .error e := by
  cases ht : tok p (c :: r) with
  | error e' => rw [lex_err h1 h2 ht] at h; injection h with h; subst h; exact .inr rfl
  | ok t => rw [lex_ok' h1 h2 ht] at h; exact .inl ⟨t, rfl, pre_err h⟩
theorem drop_tok {l r : By} {x k : Nat} {c : UInt8} (h : l.drop x = c :: r) : (c :: r).drop k = l.drop (x + k) := by rw [← h, List.drop_drop]
theorem cons_at {l : By} {x : Nat} (h : x < l.length) : ∃ c r, l.drop x = c :: r ∧ l[x]? = some c := by
  obtain ⟨c, hc⟩ : ∃ c, l[x]? = some c := ⟨_, List.getElem?_eq_getElem h⟩
  exact ⟨c, _, drop_at hc, hc⟩
theorem lex_end {l : By} {x : Nat} {Y : List Tk} (hx : l.length ≤ x) (h : lex x (l.drop x) = .ok Y) : Y = [] := by
  rw [List.drop_eq_nil_of_le hx, lex_nil] at h; injection h with h; exact h.symm
theorem lex_endE {l : By} {x : Nat} {e : Err} (hx : l.length ≤ x) (h : lex x (l.drop x) = .error e) : False := by
  rw [List.drop_eq_nil_of_le hx, lex_nil] at h; cases h
theorem lexAll_ok {l : By} {T : List Tk} (h : lexAll l = .ok T) : l.length ≤ 16384 ∧ lex 0 l = .ok T := by
  unfold lexAll at h; split at h
  · cases h
  · exact ⟨by omega, h⟩
theorem lexAll_err {l : By} {e : Err} (h : lexAll l = .error e) : (16384 < l.length ∧ e = (5, 0)) ∨ (l.length ≤ 16384 ∧ lex 0 l = .error e) := by
  unfold lexAll at h; split at h
  · injection h with h; exact .inl ⟨by assumption, h.symm⟩
  · exact .inr ⟨by omega, h⟩
attribute [local irreducible] tok

set_option maxRecDepth 8000 in
theorem All_ok {W : World} (hG : Gok W) (l : By) (T : List Tk) (h : lexAll l = .ok T) : FnS Tryz.prog 21 [S l] [base W] (fun u Bs => ∃ a c, u = .tuple #[.slice a T.length c, .nilIface] ∧ Bs = [tksA a c T, base W]) := by
 refine fn_body Tryz.func21 rfl rfl rfl ?_
 intro W0 R
 simp only [List.zipIdx_cons, List.zipIdx_nil, List.map_cons, List.map_nil, Nat.zero_add, Nat.reduceAdd, List.cons_append, List.nil_append]
 obtain ⟨hlen, hlx⟩ := lexAll_ok h
 refine g_seq ?_
 refine g_region ?_
 refine gl_v rfl (o_assign rfl) ?_
 refine gl_v rfl (o_assign rfl) ?_
 refine gl_nil ?_
 refine ge_then ?_
 refine g_seq ?_
 refine g_seq ?_
 refine g_region ?_
 refine gl_v rfl (o_move rfl) ?_
 refine gl_v rfl (o_lens rfl) ?_
 refine gl_v rfl (o_gtr rfl rfl) ?_
 refine gl_nil ?_
 refine ge_then ?_
 refine g_cond_false (by simp [opv, slk]; omega) ?_
 refine g_skip ?_
 refine ge_then ?_
 refine g_seq ?_
 refine g_region ?_
 refine gl_v rfl (o_assign rfl) ?_
 refine gl_nil ?_
 refine ge_then ?_
 refine g_seq ?_
 refine g_seq ?_
 refine g_region ?_
 refine gl_v rfl (o_move rfl) ?_
 refine gl_c rfl (o_call rfl (skip_spec l (by omega) 0 (by omega)) pA) ?_
 rintro _ R ⟨_, ⟨q, hq, rfl, rfl⟩, rfl⟩
 try simp only [List.cons_append, List.nil_append]
 refine gl_v rfl (o_assign rfl) ?_
 refine gl_nil ?_
 refine ge_then ?_
 refine g_block ?_
 refine g_loop (ι := Nat × List Tk × Option Addr × Nat) (fun z => z.1 ≤ l.length ∧ z.2.1.length ≤ z.1 ∧ (∀ c, l[z.1]? = some c → isBlank c = false ∧ c.toNat ≠ 35) ∧ ∃ Y, lex z.1 (l.drop z.1) = .ok Y ∧ T = z.2.1 ++ Y) (fun z => [(5, I64 z.1), (4, .slice z.2.2.1 z.2.1.length z.2.2.2), (0, S l)]) (fun z => tksA z.2.2.1 z.2.2.2 z.2.1 :: base W :: R) (fun z => l.length - z.1) (q, [], none, 0) (⟨hq.2.1, Nat.zero_le _, hq.2.2.2, T, by have := hq.2.2.1; rw [List.drop_zero, hlx] at this; exact this.symm, rfl⟩) (Keep.cons rfl (Keep.cons rfl (Keep.cons rfl (Keep.nil)))) (fun h s => own_nil0 h s) ?_
 rintro ⟨x, X, a, c0⟩ ⟨hx, hXx, hnb, Y, hY, hT⟩
 replace hx : x ≤ l.length := hx
 replace hXx : X.length ≤ x := hXx
 replace hnb : ∀ c, l[x]? = some c → isBlank c = false ∧ c.toNat ≠ 35 := hnb
 replace hY : lex x (l.drop x) = .ok Y := hY
 replace hT : T = X ++ Y := hT
 dsimp only
 refine g_seq ?_
 refine g_seq ?_
 refine g_region ?_
 refine gl_v rfl (o_move rfl) ?_
 refine gl_v rfl (o_move rfl) ?_
 refine gl_v rfl (o_lens rfl) ?_
 refine gl_v rfl (o_lss rfl rfl) ?_
 refine gl_nil ?_
 refine ge_then ?_
 refine g_cond rfl (fun hc1 => ?_) (fun hc1 => ?_)
 ·
  replace hc1 := hs_ hc1
  obtain ⟨c, r, hc, hg⟩ := cons_at (show x < l.length by omega)
  obtain ⟨hbl, h35⟩ := hnb c hg
  rw [hc] at hY
  obtain ⟨t, Z, ht, rfl, hZ⟩ := lex_okI hbl h35 hY
  have htx := tok_text ht
  have hrl : r.length + 1 = l.length - x := by have := congrArg List.length hc; rw [List.length_drop, List.length_cons] at this; omega
  
  refine g_skip ?_
  refine ge_then ?_
  refine g_block ?_
  refine g_seq ?_
  refine g_region ?_
  refine gl_v rfl (o_move rfl) ?_
  refine gl_v rfl (o_move rfl) ?_
  refine gl_c rfl (o_call rfl (token_ok hG l x c r hc hlen t ht) pA) ?_
  rintro _ R ⟨_, ⟨rfl, rfl⟩, rfl⟩
  try simp only [List.cons_append, List.nil_append]
  refine gl_v rfl (o_move rfl) ?_
  refine gl_v rfl (o_extract rfl rfl) ?_
  refine gl_v rfl (o_extract rfl rfl) ?_
  refine gl_n rfl (o_alloc) ?_
  rintro _ _ ⟨b6, rfl, rfl⟩
  first | refine gl_u (o_storeSA rfl rfl rfl rfl (by simp; omega) (by simp)) ?_ | refine gl_u (o_storeA rfl rfl rfl rfl rfl) ?_
  refine gl_v rfl (o_assign rfl) ?_
  refine gl_nil ?_
  refine ge_then ?_
  refine g_seq ?_
  refine g_seq ?_
  refine g_region ?_
  refine gl_v rfl (o_move rfl) ?_
  refine gl_v rfl (o_neqnI rfl) ?_
  refine gl_nil ?_
  refine ge_then ?_
  refine g_cond_false rfl ?_
  refine g_skip ?_
  refine ge_then ?_
  refine g_seq ?_
  refine g_region ?_
  refine gl_v rfl (o_move rfl) ?_
  first | refine gl_v rfl (o_loadSA rfl rfl rfl) ?_ | refine gl_v rfl (o_loadA rfl rfl rfl) ?_
  refine gl_n rfl (o_buildS1A (vs := tkC t) rfl rfl rfl rfl) ?_
  rintro _ _ ⟨b31, rfl, rfl⟩
  refine gl_n rfl (o_append rfl rfl pA rfl rfl rfl (by omega) (by unfold maxLen; omega)) ?_
  rintro _ _ ⟨a32, c32, rfl, rfl⟩
  refine gl_v rfl (o_assign rfl) ?_
  refine gl_nil ?_
  refine ge_then ?_
  refine g_region ?_
  refine gl_v rfl (o_move rfl) ?_
  refine gl_v rfl (o_move rfl) ?_
  first | refine gl_v rfl (o_fldS rfl) ?_ | refine gl_v rfl (o_fld rfl) ?_
  first | refine gl_v rfl (o_load rfl rfl) ?_ | refine gl_v rfl (o_loadS rfl rfl) ?_ | refine gl_v rfl (o_loadC rfl) ?_
  refine gl_v rfl (o_lens rfl) ?_
  refine gl_v rfl (o_addR (((x + t.text.length : Nat) : Int)) (by rw [wr_i64 (by omega)]; omega) rfl rfl) ?_
  refine gl_c rfl (o_call rfl (skip_spec l (by omega) (x + t.text.length) (by omega)) pA) ?_
  rintro _ R ⟨_, ⟨q2, hq2, rfl, rfl⟩, rfl⟩
  try simp only [List.cons_append, List.nil_append]
  refine gl_v rfl (o_assign rfl) ?_
  refine gl_nil ?_
  refine ge_block ?_
  refine ge_round (q2, X ++ [t], a32, c32) ⟨hq2.2.1, show (X ++ [t]).length ≤ q2 by rw [List.length_append, List.length_singleton]; have := hq2.1; omega, hq2.2.2.2, Z, by have h1 := hq2.2.2.1; rw [drop_tok hc] at hZ; rw [← h1]; exact hZ, by simp [hT]⟩ (show l.length - q2 < l.length - x by have := hq2.1; have := hq2.2.1; omega) (Keep.cons rfl (Keep.cons (by rw [List.length_append]; rfl) (Keep.cons rfl Keep.nil))) (by dsimp only [tksA]; rw [← flat_snoc, List.length_append]; exact (tO))
 ·
  replace hc1 := hs_ hc1
  obtain rfl := lex_end (by omega) hY
  rw [List.append_nil] at hT
  subst hT
  refine g_exit ?_
  refine ge_then_exit ?_
  refine ge_then_exit ?_
  refine ge_block_exit ?_
  refine ge_then ?_
  refine g_seq ?_
  refine g_region ?_
  refine gl_v rfl (o_move rfl) ?_
  refine gl_v rfl (o_assign rfl) ?_
  refine gl_v rfl (o_assign rfl) ?_
  refine gl_nil ?_
  refine ge_then ?_
  refine g_ret ?_
  refine ret2 (.inl rfl) rfl rfl rfl [tksA a c0 T, base W] (⟨_, _, rfl, rfl⟩) (tO)

set_option maxRecDepth 8000 in
theorem All_err1 {W : World} (hG : Gok W) (l : By) (e : Err) (hlen : l.length ≤ 16384) (hlx : lex 0 l = .error e) : FnS Tryz.prog 21 [S l] [base W] (fun u Bs => ∃ b, u = .tuple #[.slice none 0 0, errV b] ∧ Bs = [errM b e, base W]) := by
 refine fn_body Tryz.func21 rfl rfl rfl ?_
 intro W0 R
 simp only [List.zipIdx_cons, List.zipIdx_nil, List.map_cons, List.map_nil, Nat.zero_add, Nat.reduceAdd, List.cons_append, List.nil_append]
 refine g_seq ?_
 refine g_region ?_
 refine gl_v rfl (o_assign rfl) ?_
 refine gl_v rfl (o_assign rfl) ?_
 refine gl_nil ?_
 refine ge_then ?_
 refine g_seq ?_
 refine g_seq ?_
 refine g_region ?_
 refine gl_v rfl (o_move rfl) ?_
 refine gl_v rfl (o_lens rfl) ?_
 refine gl_v rfl (o_gtr rfl rfl) ?_
 refine gl_nil ?_
 refine ge_then ?_
 refine g_cond_false (by simp [opv, slk]; omega) ?_
 refine g_skip ?_
 refine ge_then ?_
 refine g_seq ?_
 refine g_region ?_
 refine gl_v rfl (o_assign rfl) ?_
 refine gl_nil ?_
 refine ge_then ?_
 refine g_seq ?_
 refine g_seq ?_
 refine g_region ?_
 refine gl_v rfl (o_move rfl) ?_
 refine gl_c rfl (o_call rfl (skip_spec l (by omega) 0 (by omega)) pA) ?_
 rintro _ R ⟨_, ⟨q, hq, rfl, rfl⟩, rfl⟩
 try simp only [List.cons_append, List.nil_append]
 refine gl_v rfl (o_assign rfl) ?_
 refine gl_nil ?_
 refine ge_then ?_
 refine g_block ?_
 refine g_loop (ι := Nat × List Tk × Option Addr × Nat) (fun z => z.1 ≤ l.length ∧ z.2.1.length ≤ z.1 ∧ (∀ c, l[z.1]? = some c → isBlank c = false ∧ c.toNat ≠ 35) ∧ lex z.1 (l.drop z.1) = .error e) (fun z => [(5, I64 z.1), (4, .slice z.2.2.1 z.2.1.length z.2.2.2), (0, S l)]) (fun z => tksA z.2.2.1 z.2.2.2 z.2.1 :: base W :: R) (fun z => l.length - z.1) (q, [], none, 0) (⟨hq.2.1, Nat.zero_le _, hq.2.2.2, by have := hq.2.2.1; rw [List.drop_zero, hlx] at this; exact this.symm⟩) (Keep.cons rfl (Keep.cons rfl (Keep.cons rfl (Keep.nil)))) (fun h s => own_nil0 h s) ?_
 rintro ⟨x, X, a, c0⟩ ⟨hx, hXx, hnb, hY⟩
 replace hx : x ≤ l.length := hx
 replace hXx : X.length ≤ x := hXx
 replace hnb : ∀ c, l[x]? = some c → isBlank c = false ∧ c.toNat ≠ 35 := hnb
 replace hY : lex x (l.drop x) = .error e := hY
 dsimp only
 refine g_seq ?_
 refine g_seq ?_
 refine g_region ?_
 refine gl_v rfl (o_move rfl) ?_
 refine gl_v rfl (o_move rfl) ?_
 refine gl_v rfl (o_lens rfl) ?_
 refine gl_v rfl (o_lss rfl rfl) ?_
 refine gl_nil ?_
 refine ge_then ?_
 refine g_cond rfl (fun hc1 => ?_) (fun hc1 => ?_)
 ·
  replace hc1 := hs_ hc1
  obtain ⟨c, r, hc, hg⟩ := cons_at (show x < l.length by omega)
  obtain ⟨hbl, h35⟩ := hnb c hg
  rw [hc] at hY
  refine g_skip ?_
  refine ge_then ?_
  refine g_block ?_
  refine g_seq ?_
  rcases lex_errI hbl h35 hY with ⟨t, ht, hZ⟩ | ht
  ·
   refine g_region ?_
   refine gl_v rfl (o_move rfl) ?_
   refine gl_v rfl (o_move rfl) ?_
   have htx := tok_text ht
   have hrl : r.length + 1 = l.length - x := by have := congrArg List.length hc; rw [List.length_drop, List.length_cons] at this; omega
   
   refine gl_c rfl (o_call rfl (token_ok hG l x c r hc hlen t ht) pA) ?_
   rintro _ R ⟨_, ⟨rfl, rfl⟩, rfl⟩
   try simp only [List.cons_append, List.nil_append]
   refine gl_v rfl (o_move rfl) ?_
   refine gl_v rfl (o_extract rfl rfl) ?_
   refine gl_v rfl (o_extract rfl rfl) ?_
   refine gl_n rfl (o_alloc) ?_
   rintro _ _ ⟨b6, rfl, rfl⟩
   first | refine gl_u (o_storeSA rfl rfl rfl rfl (by simp; omega) (by simp)) ?_ | refine gl_u (o_storeA rfl rfl rfl rfl rfl) ?_
   refine gl_v rfl (o_assign rfl) ?_
   refine gl_nil ?_
   refine ge_then ?_
   refine g_seq ?_
   refine g_seq ?_
   refine g_region ?_
   refine gl_v rfl (o_move rfl) ?_
   refine gl_v rfl (o_neqnI rfl) ?_
   refine gl_nil ?_
   refine ge_then ?_
   refine g_cond_false rfl ?_
   refine g_skip ?_
   refine ge_then ?_
   refine g_seq ?_
   refine g_region ?_
   refine gl_v rfl (o_move rfl) ?_
   first | refine gl_v rfl (o_loadSA rfl rfl rfl) ?_ | refine gl_v rfl (o_loadA rfl rfl rfl) ?_
   refine gl_n rfl (o_buildS1A (vs := tkC t) rfl rfl rfl rfl) ?_
   rintro _ _ ⟨b31, rfl, rfl⟩
   refine gl_n rfl (o_append rfl rfl pA rfl rfl rfl (by omega) (by unfold maxLen; omega)) ?_
   rintro _ _ ⟨a32, c32, rfl, rfl⟩
   refine gl_v rfl (o_assign rfl) ?_
   refine gl_nil ?_
   refine ge_then ?_
   refine g_region ?_
   refine gl_v rfl (o_move rfl) ?_
   refine gl_v rfl (o_move rfl) ?_
   first | refine gl_v rfl (o_fldS rfl) ?_ | refine gl_v rfl (o_fld rfl) ?_
   first | refine gl_v rfl (o_load rfl rfl) ?_ | refine gl_v rfl (o_loadS rfl rfl) ?_ | refine gl_v rfl (o_loadC rfl) ?_
   refine gl_v rfl (o_lens rfl) ?_
   refine gl_v rfl (o_addR (((x + t.text.length : Nat) : Int)) (by rw [wr_i64 (by omega)]; omega) rfl rfl) ?_
   refine gl_c rfl (o_call rfl (skip_spec l (by omega) (x + t.text.length) (by omega)) pA) ?_
   rintro _ R ⟨_, ⟨q2, hq2, rfl, rfl⟩, rfl⟩
   try simp only [List.cons_append, List.nil_append]
   refine gl_v rfl (o_assign rfl) ?_
   refine gl_nil ?_
   refine ge_block ?_
   refine ge_round (q2, X ++ [t], a32, c32) ⟨hq2.2.1, show (X ++ [t]).length ≤ q2 by rw [List.length_append, List.length_singleton]; have := hq2.1; omega, hq2.2.2.2, by have h1 := hq2.2.2.1; rw [drop_tok hc] at hZ; rw [← h1]; exact hZ⟩ (show l.length - q2 < l.length - x by have := hq2.1; have := hq2.2.1; omega) (Keep.cons rfl (Keep.cons (by rw [List.length_append]; rfl) (Keep.cons rfl Keep.nil))) (by dsimp only [tksA]; rw [← flat_snoc, List.length_append]; exact (tO))
  ·
   refine g_region ?_
   refine gl_v rfl (o_move rfl) ?_
   refine gl_v rfl (o_move rfl) ?_
   refine gl_c rfl (o_call rfl (token_err hG l x c r hc hlen e ht) pA) ?_
   rintro _ R ⟨_, ⟨b, rfl, rfl⟩, rfl⟩
   try simp only [List.cons_append, List.nil_append]
   refine gl_v rfl (o_move rfl) ?_
   refine gl_v rfl (o_extract rfl rfl) ?_
   refine gl_v rfl (o_extract rfl rfl) ?_
   refine gl_n rfl (o_alloc) ?_
   rintro _ _ ⟨b6, rfl, rfl⟩
   first | refine gl_u (o_storeSA rfl rfl rfl rfl (by simp; omega) (by simp)) ?_ | refine gl_u (o_storeA rfl rfl rfl rfl rfl) ?_
   refine gl_v rfl (o_assign rfl) ?_
   refine gl_nil ?_
   refine ge_then ?_
   refine g_seq ?_
   refine g_seq ?_
   refine g_region ?_
   refine gl_v rfl (o_move rfl) ?_
   refine gl_v rfl (o_neqIn rfl) ?_
   refine gl_nil ?_
   refine ge_then ?_
   refine g_cond_true rfl ?_
   refine g_seq ?_
   refine g_region ?_
   refine gl_v rfl (o_move rfl) ?_
   refine gl_v rfl (o_assign rfl) ?_
   refine gl_v rfl (o_assign rfl) ?_
   refine gl_nil ?_
   refine ge_then ?_
   refine g_ret ?_
   refine ge_then_ret ?_
   refine ge_block_ret ?_
   refine ge_then_ret ?_
   refine ge_block_ret ?_
   refine ge_then_ret ?_
   refine ret2 (.inl rfl) rfl rfl rfl [errM b e, base W] (⟨_, rfl, rfl⟩) (tO)
 ·
  replace hc1 := hs_ hc1
  exact (lex_endE (by omega) hY).elim

set_option maxRecDepth 8000 in
theorem All_err2 {W : World} (l : By) (hlen : 16384 < l.length) (hl2 : l.length ≤ 9223372036854775807) : FnS Tryz.prog 21 [S l] [base W] (fun u Bs => ∃ b, u = .tuple #[.slice none 0 0, errV b] ∧ Bs = [errM b (5, 0), base W]) := by
 refine fn_body Tryz.func21 rfl rfl rfl ?_
 intro W0 R
 simp only [List.zipIdx_cons, List.zipIdx_nil, List.map_cons, List.map_nil, Nat.zero_add, Nat.reduceAdd, List.cons_append, List.nil_append]
 refine g_seq ?_
 refine g_region ?_
 refine gl_v rfl (o_assign rfl) ?_
 refine gl_v rfl (o_assign rfl) ?_
 refine gl_nil ?_
 refine ge_then ?_
 refine g_seq ?_
 refine g_seq ?_
 refine g_region ?_
 refine gl_v rfl (o_move rfl) ?_
 refine gl_v rfl (o_lens rfl) ?_
 refine gl_v rfl (o_gtr rfl rfl) ?_
 refine gl_nil ?_
 refine ge_then ?_
 refine g_cond_true (by simp [opv, slk]; omega) ?_
 refine g_seq ?_
 refine g_region ?_
 refine gl_v rfl (o_build rfl rfl) ?_
 refine gl_n rfl (o_boxA rfl) ?_
 rintro _ _ ⟨b12, rfl, rfl⟩
 refine gl_v rfl (o_iface Tryz.underlying65 rfl rfl) ?_
 refine gl_v rfl (o_assign rfl) ?_
 refine gl_v rfl (o_assign rfl) ?_
 refine gl_nil ?_
 refine ge_then ?_
 refine g_ret ?_
 refine ge_then_ret ?_
 refine ret2 (.inl rfl) rfl rfl rfl [errM b12 (5, 0), base W] (⟨_, rfl, rfl⟩) (tO)

theorem All_err {W : World} (hG : Gok W) (l : By) (hl2 : l.length ≤ 9223372036854775807) (e : Err) (h : lexAll l = .error e) : FnS Tryz.prog 21 [S l] [base W] (fun u Bs => ∃ b, u = .tuple #[.slice none 0 0, errV b] ∧ Bs = [errM b e, base W]) := by
  rcases lexAll_err h with ⟨h1, rfl⟩ | ⟨h1, h2⟩
  · exact All_err2 l h1 hl2
  · exact All_err1 hG l e h1 h2

end Go.Proofs.YtgmdlhlmffdbhaaGreatDoor.L
