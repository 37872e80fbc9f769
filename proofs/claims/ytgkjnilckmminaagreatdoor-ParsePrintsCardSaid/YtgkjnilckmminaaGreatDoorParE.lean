/-
  Parse: the reference's Writable. Own work, printed in part by a program of its own.
-/
import Derived.Test.YtgkjnilckmminaaGreatDoorParG
import Derived.Test.YtgkjnilckmminaaGreatDoorParQ
set_option linter.unusedSimpArgs false
set_option linter.unusedVariables false
set_option linter.unusedSectionVars false
namespace Go.Proofs.YtgkjnilckmminaaGreatDoor.L
open Go.L Go.L.Lx Go.L.Pg Go.L.Pa
theorem bv {a b : Bool} (h : a = b) : Value.bool a = Value.bool b := by rw [h]
theorem has_t {s : By} {c t : UInt8} {x : Nat} (h : s[x]? = some t) (e : t.toNat = c.toNat) : Pa.has s c = true := by
  have : t = c := UInt8.toNat_inj.1 e
  unfold Pa.has; simp only [decide_eq_true_eq]; rw [← this]; exact List.mem_of_getElem? h
theorem effOK_eq (e : Eff) : effOK e = (!(decide ((verb e.do').1 = []) || !nameR e.ref (Pa.has (verb e.do').2 114) || !nameR e.slot (Pa.has (verb e.do').2 115) || !nameR e.name (Pa.has (verb e.do').2 110)) && !((Pa.has (verb e.do').2 100 && !small e.delay) || (!Pa.has (verb e.do').2 100 && !decide (e.delay = 0)))
  && (if !Pa.has (verb e.do').2 118 || !decide (e.value = 2) then decide (e.n = 0) && (decide (e.value = 0) || (decide (e.value = 1) && Pa.has (verb e.do').2 118)) else small e.n)) := by
  unfold effOK
  have e1 : ∀ a b c d : Bool, (!(a || !b || !c || !d)) = (!a && b && c && d) := by decide
  have e2 : ∀ a b c : Bool, (!((a && !b) || (!a && !c))) = (if a then b else c) := by decide
  rw [e1, e2]
theorem eff_A {e : Eff} (h : (decide ((verb e.do').1 = []) || !nameR e.ref (Pa.has (verb e.do').2 114) || !nameR e.slot (Pa.has (verb e.do').2 115) || !nameR e.name (Pa.has (verb e.do').2 110)) = true) : effOK e = false := by rw [effOK_eq, h]; rfl
theorem eff_B {e : Eff} (h : ((Pa.has (verb e.do').2 100 && !small e.delay) || (!Pa.has (verb e.do').2 100 && !decide (e.delay = 0))) = true) : effOK e = false := by rw [effOK_eq, h]; simp
theorem eff_C {e : Eff} (h : (decide ((verb e.do').1 = []) || !nameR e.ref (Pa.has (verb e.do').2 114) || !nameR e.slot (Pa.has (verb e.do').2 115) || !nameR e.name (Pa.has (verb e.do').2 110)) = false) (h2 : ((Pa.has (verb e.do').2 100 && !small e.delay) || (!Pa.has (verb e.do').2 100 && !decide (e.delay = 0))) = false) (h3 : (!Pa.has (verb e.do').2 118 || !decide (e.value = 2)) = true) : effOK e = (decide (e.n = 0) && (decide (e.value = 0) || (decide (e.value = 1) && Pa.has (verb e.do').2 118))) := by rw [effOK_eq, h, h2, if_pos h3]; rfl
theorem eff_D {e : Eff} (h : (decide ((verb e.do').1 = []) || !nameR e.ref (Pa.has (verb e.do').2 114) || !nameR e.slot (Pa.has (verb e.do').2 115) || !nameR e.name (Pa.has (verb e.do').2 110)) = false) (h2 : ((Pa.has (verb e.do').2 100 && !small e.delay) || (!Pa.has (verb e.do').2 100 && !decide (e.delay = 0))) = false) (h3 : (!Pa.has (verb e.do').2 118 || !decide (e.value = 2)) = false) : effOK e = small e.n := by rw [effOK_eq, h, h2, if_neg (by rw [h3]; decide)]; rfl
theorem verb0 {d : Int} (h1 : ¬ d = 1) (h2 : ¬ d = 2) (h3 : ¬ d = 3) (h4 : ¬ d = 4) (h5 : ¬ d = 5) (h6 : ¬ d = 6) (h7 : ¬ d = 7) (h8 : ¬ d = 8) (h9 : ¬ d = 9) (h10 : ¬ d = 10) (h11 : ¬ d = 11) (h12 : ¬ d = 12) : verb d = ([], []) := verb_no (by omega)
/-- a directive's word -/
def wordD (d : Int) : By := if d = 1 then dirs.getD 0 [] else if d = 2 then dirs.getD 1 [] else if d = 3 then dirs.getD 2 [] else if d = 4 then dirs.getD 3 [] else []
theorem wordD_nil (d : Int) : decide (wordD d = []) = !(decide (1 ≤ d) && decide (d ≤ 4)) := by
  unfold wordD
  by_cases h : 1 ≤ d ∧ d ≤ 4
  · rcases (show d = 1 ∨ d = 2 ∨ d = 3 ∨ d = 4 by omega) with rfl | rfl | rfl | rfl <;> decide
  · rw [if_neg (by omega), if_neg (by omega), if_neg (by omega), if_neg (by omega)]
    rcases (show ¬ 1 ≤ d ∨ ¬ d ≤ 4 by omega) with h | h
    · rw [decide_eq_false h]; rfl
    · rw [decide_eq_false h, Bool.and_false]; rfl
theorem rowOK_eq (r : Row) : rowOK r = (!((((decide (r.tag = []) && r.only) || (!decide (r.tag = []) && !isName r.tag)) || (r.only && !small r.n)) || (!r.only && !decide (r.n = 0))) && r.effs.all effOK) := by
  unfold rowOK
  have e1 : ∀ t o n s z : Bool, ((if t then !o else n) && (if o then s else z)) = !((((t && o) || (!t && !n)) || (o && !s)) || (!o && !z)) := by decide
  rw [← e1]
theorem casOK_eq (c : Cas) : casOK c = !((!decide (c.reason = []) && !isName c.reason) || decide (wordD c.do' = [])) := by
  unfold casOK; rw [wordD_nil]
  have e1 : ∀ a b x : Bool, ((a || b) && x) = !((!a && !b) || !x) := by decide
  exact e1 _ _ _

def isc (c : UInt8) : Nat := if isBlank c then 1 else if isLet c then 2 else if isDig c then 3 else if c.toNat = 95 then 4 else if isSign c then 5 else if c.toNat = 35 then 6 else 0
theorem isc_let (c : UInt8) : isc c = 2 ↔ isLet c = true := by
  unfold isc isBlank isLet isDig isSign; simp only [decide_eq_true_eq]; (repeat' split) <;> omega
theorem isc_in (c : UInt8) : isIn c = true ↔ isc c = 2 ∨ isc c = 3 ∨ isc c = 4 := by
  unfold isc isBlank isLet isDig isSign isIn; simp only [decide_eq_true_eq]; (repeat' split) <;> omega
theorem in_f {c : UInt8} (h : ¬ (isc c = 2 ∨ isc c = 3 ∨ isc c = 4)) : isIn c = false := by
  cases hi : isIn c with
  | false => rfl
  | true => exact absurd ((isc_in c).1 hi) h
theorem let_f {c : UInt8} (h : isc c ≠ 2) : isLet c = false := by
  cases hi : isLet c with
  | false => rfl
  | true => exact absurd ((isc_let c).2 hi) h

set_option maxRecDepth 8000 in
set_option maxHeartbeats 2000000 in
theorem Is_spec (c : UInt8) : FnS Tryz.prog 57 [B8 c] [] (fun u Bs => u = I64 (isc c) ∧ Bs = []) := by
 refine fn_body Tryz.func57 rfl rfl rfl ?_
 intro W0 R
 simp only [List.zipIdx_cons, List.zipIdx_nil, List.map_cons, List.map_nil, Nat.zero_add, Nat.reduceAdd, List.cons_append, List.nil_append]
 refine g_seq ?_
 refine g_region ?_
 refine gl_v rfl (o_assign rfl) ?_
 refine gl_nil ?_
 refine ge_then ?_
 refine g_seq ?_
 refine g_block ?_
 refine g_seq ?_
 refine g_region ?_
 refine gl_v rfl (o_move rfl) ?_
 refine gl_v rfl (o_eql rfl rfl) ?_
 refine gl_v rfl (o_move rfl) ?_
 refine gl_g rfl rfl (fun hc1 => ?_) (fun hc1 => ?_) rfl
 ·
  have hc1' := hc1
  replace hc1' := hs_ hc1'
  refine gl_v rfl (o_move rfl) ?_
  refine gl_gT rfl rfl hc1 ?_
  refine gl_v rfl (o_eql rfl rfl) ?_
  refine gl_v rfl (o_pickF hc1 rfl rfl) ?_
  refine gl_v rfl (o_move rfl) ?_
  refine gl_g rfl rfl (fun hc2 => ?_) (fun hc2 => ?_) rfl
  ·
   have hc2' := hc2
   replace hc2' := hs_ hc2'
   refine gl_v rfl (o_move rfl) ?_
   refine gl_gT rfl rfl hc2 ?_
   refine gl_v rfl (o_eql rfl rfl) ?_
   refine gl_v rfl (o_pickF hc2 rfl rfl) ?_
   refine gl_v rfl (o_move rfl) ?_
   refine gl_g rfl rfl (fun hc3 => ?_) (fun hc3 => ?_) rfl
   ·
    have hc3' := hc3
    replace hc3' := hs_ hc3'
    refine gl_v rfl (o_move rfl) ?_
    refine gl_gT rfl rfl hc3 ?_
    refine gl_v rfl (o_eql rfl rfl) ?_
    refine gl_v rfl (o_pickF hc3 rfl rfl) ?_
    refine gl_v rfl (o_assign rfl) ?_
    refine gl_nil ?_
    refine ge_then ?_
    refine g_cond rfl (fun hc4 => ?_) (fun hc4 => ?_)
    ·
     replace hc4 := hs_ hc4
     refine g_seq ?_
     refine g_region ?_
     refine gl_v rfl (o_assign rfl) ?_
     refine gl_nil ?_
     refine ge_then ?_
     refine g_ret ?_
     refine ge_block_ret ?_
     refine ge_then_ret ?_
     refine ret1 (.inl rfl) rfl rfl _ (⟨by (try simp only [Bool.not_false, Bool.not_true, decide_eq_true_eq, decide_eq_false_iff_not] at *); refine congrArg (Value.int .i64) ?_; unfold isc isBlank isLet isDig isSign; simp only [decide_eq_true_eq]; (repeat' split) <;> first | rfl | omega, rfl⟩) (tO)
    ·
     replace hc4 := hs_ hc4
     refine g_seq ?_
     refine g_region ?_
     refine gl_v rfl (o_move rfl) ?_
     refine gl_v rfl (o_geq rfl rfl) ?_
     refine gl_v rfl (o_move rfl) ?_
     refine gl_g rfl rfl (fun hc5 => ?_) (fun hc5 => ?_) rfl
     ·
      have hc5' := hc5
      replace hc5' := hs_ hc5'
      refine gl_v rfl (o_move rfl) ?_
      refine gl_gT rfl rfl hc5 ?_
      refine gl_v rfl (o_leq rfl rfl) ?_
      refine gl_v rfl (o_pickT hc5 rfl rfl) ?_
      refine gl_v rfl (o_assign rfl) ?_
      refine gl_nil ?_
      refine ge_then ?_
      refine g_cond rfl (fun hc6 => ?_) (fun hc6 => ?_)
      ·
       replace hc6 := hs_ hc6
       refine g_seq ?_
       refine g_region ?_
       refine gl_v rfl (o_assign rfl) ?_
       refine gl_nil ?_
       refine ge_then ?_
       refine g_ret ?_
       refine ge_block_ret ?_
       refine ge_then_ret ?_
       refine ret1 (.inl rfl) rfl rfl _ (⟨by (try simp only [Bool.not_false, Bool.not_true, decide_eq_true_eq, decide_eq_false_iff_not] at *); refine congrArg (Value.int .i64) ?_; unfold isc isBlank isLet isDig isSign; simp only [decide_eq_true_eq]; (repeat' split) <;> first | rfl | omega, rfl⟩) (tO)
      ·
       replace hc6 := hs_ hc6
       refine g_seq ?_
       refine g_region ?_
       refine gl_v rfl (o_move rfl) ?_
       refine gl_v rfl (o_geq rfl rfl) ?_
       refine gl_v rfl (o_move rfl) ?_
       refine gl_g rfl rfl (fun hc7 => ?_) (fun hc7 => ?_) rfl
       ·
        have hc7' := hc7
        replace hc7' := hs_ hc7'
        refine gl_v rfl (o_move rfl) ?_
        refine gl_gT rfl rfl hc7 ?_
        refine gl_v rfl (o_leq rfl rfl) ?_
        refine gl_v rfl (o_pickT hc7 rfl rfl) ?_
        refine gl_v rfl (o_assign rfl) ?_
        refine gl_nil ?_
        refine ge_then ?_
        refine g_cond rfl (fun hc8 => ?_) (fun hc8 => ?_)
        ·
         replace hc8 := hs_ hc8
         refine g_seq ?_
         refine g_region ?_
         refine gl_v rfl (o_assign rfl) ?_
         refine gl_nil ?_
         refine ge_then ?_
         refine g_ret ?_
         refine ge_block_ret ?_
         refine ge_then_ret ?_
         refine ret1 (.inl rfl) rfl rfl _ (⟨by (try simp only [Bool.not_false, Bool.not_true, decide_eq_true_eq, decide_eq_false_iff_not] at *); refine congrArg (Value.int .i64) ?_; unfold isc isBlank isLet isDig isSign; simp only [decide_eq_true_eq]; (repeat' split) <;> first | rfl | omega, rfl⟩) (tO)
        ·
         replace hc8 := hs_ hc8
         refine g_seq ?_
         refine g_region ?_
         refine gl_v rfl (o_move rfl) ?_
         refine gl_v rfl (o_eql rfl rfl) ?_
         refine gl_v rfl (o_assign rfl) ?_
         refine gl_nil ?_
         refine ge_then ?_
         refine g_cond rfl (fun hc9 => ?_) (fun hc9 => ?_)
         ·
          replace hc9 := hs_ hc9
          refine g_seq ?_
          refine g_region ?_
          refine gl_v rfl (o_assign rfl) ?_
          refine gl_nil ?_
          refine ge_then ?_
          refine g_ret ?_
          refine ge_block_ret ?_
          refine ge_then_ret ?_
          refine ret1 (.inl rfl) rfl rfl _ (⟨by (try simp only [Bool.not_false, Bool.not_true, decide_eq_true_eq, decide_eq_false_iff_not] at *); refine congrArg (Value.int .i64) ?_; unfold isc isBlank isLet isDig isSign; simp only [decide_eq_true_eq]; (repeat' split) <;> first | rfl | omega, rfl⟩) (tO)
         ·
          replace hc9 := hs_ hc9
          refine g_seq ?_
          refine g_region ?_
          refine gl_v rfl (o_move rfl) ?_
          refine gl_v rfl (o_eql rfl rfl) ?_
          refine gl_v rfl (o_move rfl) ?_
          refine gl_g rfl rfl (fun hc10 => ?_) (fun hc10 => ?_) rfl
          ·
           have hc10' := hc10
           replace hc10' := hs_ hc10'
           refine gl_v rfl (o_move rfl) ?_
           refine gl_gT rfl rfl hc10 ?_
           refine gl_v rfl (o_eql rfl rfl) ?_
           refine gl_v rfl (o_pickF hc10 rfl rfl) ?_
           refine gl_v rfl (o_move rfl) ?_
           refine gl_g rfl rfl (fun hc11 => ?_) (fun hc11 => ?_) rfl
           ·
            have hc11' := hc11
            replace hc11' := hs_ hc11'
            refine gl_v rfl (o_move rfl) ?_
            refine gl_gT rfl rfl hc11 ?_
            refine gl_v rfl (o_eql rfl rfl) ?_
            refine gl_v rfl (o_pickF hc11 rfl rfl) ?_
            refine gl_v rfl (o_assign rfl) ?_
            refine gl_nil ?_
            refine ge_then ?_
            refine g_cond rfl (fun hc12 => ?_) (fun hc12 => ?_)
            ·
             replace hc12 := hs_ hc12
             refine g_seq ?_
             refine g_region ?_
             refine gl_v rfl (o_assign rfl) ?_
             refine gl_nil ?_
             refine ge_then ?_
             refine g_ret ?_
             refine ge_block_ret ?_
             refine ge_then_ret ?_
             refine ret1 (.inl rfl) rfl rfl _ (⟨by (try simp only [Bool.not_false, Bool.not_true, decide_eq_true_eq, decide_eq_false_iff_not] at *); refine congrArg (Value.int .i64) ?_; unfold isc isBlank isLet isDig isSign; simp only [decide_eq_true_eq]; (repeat' split) <;> first | rfl | omega, rfl⟩) (tO)
            ·
             replace hc12 := hs_ hc12
             refine g_seq ?_
             refine g_region ?_
             refine gl_v rfl (o_move rfl) ?_
             refine gl_v rfl (o_eql rfl rfl) ?_
             refine gl_v rfl (o_assign rfl) ?_
             refine gl_nil ?_
             refine ge_then ?_
             refine g_cond rfl (fun hc13 => ?_) (fun hc13 => ?_)
             ·
              replace hc13 := hs_ hc13
              refine g_seq ?_
              refine g_region ?_
              refine gl_v rfl (o_assign rfl) ?_
              refine gl_nil ?_
              refine ge_then ?_
              refine g_ret ?_
              refine ge_block_ret ?_
              refine ge_then_ret ?_
              refine ret1 (.inl rfl) rfl rfl _ (⟨by (try simp only [Bool.not_false, Bool.not_true, decide_eq_true_eq, decide_eq_false_iff_not] at *); refine congrArg (Value.int .i64) ?_; unfold isc isBlank isLet isDig isSign; simp only [decide_eq_true_eq]; (repeat' split) <;> first | rfl | omega, rfl⟩) (tO)
             ·
              replace hc13 := hs_ hc13
              refine g_skip ?_
              refine ge_block ?_
              refine ge_then ?_
              refine g_seq ?_
              refine g_region ?_
              refine gl_v rfl (o_assign rfl) ?_
              refine gl_nil ?_
              refine ge_then ?_
              refine g_ret ?_
              refine ret1 (.inl rfl) rfl rfl _ (⟨by (try simp only [Bool.not_false, Bool.not_true, decide_eq_true_eq, decide_eq_false_iff_not] at *); refine congrArg (Value.int .i64) ?_; unfold isc isBlank isLet isDig isSign; simp only [decide_eq_true_eq]; (repeat' split) <;> first | rfl | omega, rfl⟩) (tO)
           ·
            have hc11' := hc11
            replace hc11' := hs_ hc11'
            simp only [putO]
            refine gl_gF rfl rfl hc11 rfl ?_
            refine gl_v rfl (o_pickT hc11 rfl rfl) ?_
            refine gl_v rfl (o_assign rfl) ?_
            refine gl_nil ?_
            refine ge_then ?_
            refine g_cond_true rfl ?_
            refine g_seq ?_
            refine g_region ?_
            refine gl_v rfl (o_assign rfl) ?_
            refine gl_nil ?_
            refine ge_then ?_
            refine g_ret ?_
            refine ge_block_ret ?_
            refine ge_then_ret ?_
            refine ret1 (.inl rfl) rfl rfl _ (⟨by (try simp only [Bool.not_false, Bool.not_true, decide_eq_true_eq, decide_eq_false_iff_not] at *); refine congrArg (Value.int .i64) ?_; unfold isc isBlank isLet isDig isSign; simp only [decide_eq_true_eq]; (repeat' split) <;> first | rfl | omega, rfl⟩) (tO)
          ·
           have hc10' := hc10
           replace hc10' := hs_ hc10'
           simp only [putO]
           refine gl_gF rfl rfl hc10 rfl ?_
           refine gl_v rfl (o_pickT hc10 rfl rfl) ?_
           refine gl_v rfl (o_move rfl) ?_
           refine gl_gF rfl rfl rfl rfl ?_
           refine gl_gF rfl rfl rfl rfl ?_
           refine gl_v rfl (o_pickT rfl rfl rfl) ?_
           refine gl_v rfl (o_assign rfl) ?_
           refine gl_nil ?_
           refine ge_then ?_
           refine g_cond_true rfl ?_
           refine g_seq ?_
           refine g_region ?_
           refine gl_v rfl (o_assign rfl) ?_
           refine gl_nil ?_
           refine ge_then ?_
           refine g_ret ?_
           refine ge_block_ret ?_
           refine ge_then_ret ?_
           refine ret1 (.inl rfl) rfl rfl _ (⟨by (try simp only [Bool.not_false, Bool.not_true, decide_eq_true_eq, decide_eq_false_iff_not] at *); refine congrArg (Value.int .i64) ?_; unfold isc isBlank isLet isDig isSign; simp only [decide_eq_true_eq]; (repeat' split) <;> first | rfl | omega, rfl⟩) (tO)
       ·
        have hc7' := hc7
        replace hc7' := hs_ hc7'
        simp only [putO]
        refine gl_gF rfl rfl hc7 rfl ?_
        refine gl_v rfl (o_pickF hc7 rfl rfl) ?_
        refine gl_v rfl (o_assign rfl) ?_
        refine gl_nil ?_
        refine ge_then ?_
        refine g_cond_false rfl ?_
        refine g_seq ?_
        refine g_region ?_
        refine gl_v rfl (o_move rfl) ?_
        refine gl_v rfl (o_eql rfl rfl) ?_
        refine gl_v rfl (o_assign rfl) ?_
        refine gl_nil ?_
        refine ge_then ?_
        refine g_cond rfl (fun hc14 => ?_) (fun hc14 => ?_)
        ·
         replace hc14 := hs_ hc14
         refine g_seq ?_
         refine g_region ?_
         refine gl_v rfl (o_assign rfl) ?_
         refine gl_nil ?_
         refine ge_then ?_
         refine g_ret ?_
         refine ge_block_ret ?_
         refine ge_then_ret ?_
         refine ret1 (.inl rfl) rfl rfl _ (⟨by (try simp only [Bool.not_false, Bool.not_true, decide_eq_true_eq, decide_eq_false_iff_not] at *); refine congrArg (Value.int .i64) ?_; unfold isc isBlank isLet isDig isSign; simp only [decide_eq_true_eq]; (repeat' split) <;> first | rfl | omega, rfl⟩) (tO)
        ·
         replace hc14 := hs_ hc14
         refine g_seq ?_
         refine g_region ?_
         refine gl_v rfl (o_move rfl) ?_
         refine gl_v rfl (o_eql rfl rfl) ?_
         refine gl_v rfl (o_move rfl) ?_
         refine gl_g rfl rfl (fun hc15 => ?_) (fun hc15 => ?_) rfl
         ·
          have hc15' := hc15
          replace hc15' := hs_ hc15'
          refine gl_v rfl (o_move rfl) ?_
          refine gl_gT rfl rfl hc15 ?_
          refine gl_v rfl (o_eql rfl rfl) ?_
          refine gl_v rfl (o_pickF hc15 rfl rfl) ?_
          refine gl_v rfl (o_move rfl) ?_
          refine gl_g rfl rfl (fun hc16 => ?_) (fun hc16 => ?_) rfl
          ·
           have hc16' := hc16
           replace hc16' := hs_ hc16'
           refine gl_v rfl (o_move rfl) ?_
           refine gl_gT rfl rfl hc16 ?_
           refine gl_v rfl (o_eql rfl rfl) ?_
           refine gl_v rfl (o_pickF hc16 rfl rfl) ?_
           refine gl_v rfl (o_assign rfl) ?_
           refine gl_nil ?_
           refine ge_then ?_
           refine g_cond rfl (fun hc17 => ?_) (fun hc17 => ?_)
           ·
            replace hc17 := hs_ hc17
            refine g_seq ?_
            refine g_region ?_
            refine gl_v rfl (o_assign rfl) ?_
            refine gl_nil ?_
            refine ge_then ?_
            refine g_ret ?_
            refine ge_block_ret ?_
            refine ge_then_ret ?_
            refine ret1 (.inl rfl) rfl rfl _ (⟨by (try simp only [Bool.not_false, Bool.not_true, decide_eq_true_eq, decide_eq_false_iff_not] at *); refine congrArg (Value.int .i64) ?_; unfold isc isBlank isLet isDig isSign; simp only [decide_eq_true_eq]; (repeat' split) <;> first | rfl | omega, rfl⟩) (tO)
           ·
            replace hc17 := hs_ hc17
            refine g_seq ?_
            refine g_region ?_
            refine gl_v rfl (o_move rfl) ?_
            refine gl_v rfl (o_eql rfl rfl) ?_
            refine gl_v rfl (o_assign rfl) ?_
            refine gl_nil ?_
            refine ge_then ?_
            refine g_cond rfl (fun hc18 => ?_) (fun hc18 => ?_)
            ·
             replace hc18 := hs_ hc18
             refine g_seq ?_
             refine g_region ?_
             refine gl_v rfl (o_assign rfl) ?_
             refine gl_nil ?_
             refine ge_then ?_
             refine g_ret ?_
             refine ge_block_ret ?_
             refine ge_then_ret ?_
             refine ret1 (.inl rfl) rfl rfl _ (⟨by (try simp only [Bool.not_false, Bool.not_true, decide_eq_true_eq, decide_eq_false_iff_not] at *); refine congrArg (Value.int .i64) ?_; unfold isc isBlank isLet isDig isSign; simp only [decide_eq_true_eq]; (repeat' split) <;> first | rfl | omega, rfl⟩) (tO)
            ·
             replace hc18 := hs_ hc18
             refine g_skip ?_
             refine ge_block ?_
             refine ge_then ?_
             refine g_seq ?_
             refine g_region ?_
             refine gl_v rfl (o_assign rfl) ?_
             refine gl_nil ?_
             refine ge_then ?_
             refine g_ret ?_
             refine ret1 (.inl rfl) rfl rfl _ (⟨by (try simp only [Bool.not_false, Bool.not_true, decide_eq_true_eq, decide_eq_false_iff_not] at *); refine congrArg (Value.int .i64) ?_; unfold isc isBlank isLet isDig isSign; simp only [decide_eq_true_eq]; (repeat' split) <;> first | rfl | omega, rfl⟩) (tO)
          ·
           have hc16' := hc16
           replace hc16' := hs_ hc16'
           simp only [putO]
           refine gl_gF rfl rfl hc16 rfl ?_
           refine gl_v rfl (o_pickT hc16 rfl rfl) ?_
           refine gl_v rfl (o_assign rfl) ?_
           refine gl_nil ?_
           refine ge_then ?_
           refine g_cond_true rfl ?_
           refine g_seq ?_
           refine g_region ?_
           refine gl_v rfl (o_assign rfl) ?_
           refine gl_nil ?_
           refine ge_then ?_
           refine g_ret ?_
           refine ge_block_ret ?_
           refine ge_then_ret ?_
           refine ret1 (.inl rfl) rfl rfl _ (⟨by (try simp only [Bool.not_false, Bool.not_true, decide_eq_true_eq, decide_eq_false_iff_not] at *); refine congrArg (Value.int .i64) ?_; unfold isc isBlank isLet isDig isSign; simp only [decide_eq_true_eq]; (repeat' split) <;> first | rfl | omega, rfl⟩) (tO)
         ·
          have hc15' := hc15
          replace hc15' := hs_ hc15'
          simp only [putO]
          refine gl_gF rfl rfl hc15 rfl ?_
          refine gl_v rfl (o_pickT hc15 rfl rfl) ?_
          refine gl_v rfl (o_move rfl) ?_
          refine gl_gF rfl rfl rfl rfl ?_
          refine gl_gF rfl rfl rfl rfl ?_
          refine gl_v rfl (o_pickT rfl rfl rfl) ?_
          refine gl_v rfl (o_assign rfl) ?_
          refine gl_nil ?_
          refine ge_then ?_
          refine g_cond_true rfl ?_
          refine g_seq ?_
          refine g_region ?_
          refine gl_v rfl (o_assign rfl) ?_
          refine gl_nil ?_
          refine ge_then ?_
          refine g_ret ?_
          refine ge_block_ret ?_
          refine ge_then_ret ?_
          refine ret1 (.inl rfl) rfl rfl _ (⟨by (try simp only [Bool.not_false, Bool.not_true, decide_eq_true_eq, decide_eq_false_iff_not] at *); refine congrArg (Value.int .i64) ?_; unfold isc isBlank isLet isDig isSign; simp only [decide_eq_true_eq]; (repeat' split) <;> first | rfl | omega, rfl⟩) (tO)
     ·
      have hc5' := hc5
      replace hc5' := hs_ hc5'
      simp only [putO]
      refine gl_gF rfl rfl hc5 rfl ?_
      refine gl_v rfl (o_pickF hc5 rfl rfl) ?_
      refine gl_v rfl (o_assign rfl) ?_
      refine gl_nil ?_
      refine ge_then ?_
      refine g_cond_false rfl ?_
      refine g_seq ?_
      refine g_region ?_
      refine gl_v rfl (o_move rfl) ?_
      refine gl_v rfl (o_geq rfl rfl) ?_
      refine gl_v rfl (o_move rfl) ?_
      refine gl_g rfl rfl (fun hc19 => ?_) (fun hc19 => ?_) rfl
      ·
       have hc19' := hc19
       replace hc19' := hs_ hc19'
       refine gl_v rfl (o_move rfl) ?_
       refine gl_gT rfl rfl hc19 ?_
       refine gl_v rfl (o_leq rfl rfl) ?_
       refine gl_v rfl (o_pickT hc19 rfl rfl) ?_
       refine gl_v rfl (o_assign rfl) ?_
       refine gl_nil ?_
       refine ge_then ?_
       refine g_cond rfl (fun hc20 => ?_) (fun hc20 => ?_)
       ·
        replace hc20 := hs_ hc20
        refine g_seq ?_
        refine g_region ?_
        refine gl_v rfl (o_assign rfl) ?_
        refine gl_nil ?_
        refine ge_then ?_
        refine g_ret ?_
        refine ge_block_ret ?_
        refine ge_then_ret ?_
        refine ret1 (.inl rfl) rfl rfl _ (⟨by (try simp only [Bool.not_false, Bool.not_true, decide_eq_true_eq, decide_eq_false_iff_not] at *); refine congrArg (Value.int .i64) ?_; unfold isc isBlank isLet isDig isSign; simp only [decide_eq_true_eq]; (repeat' split) <;> first | rfl | omega, rfl⟩) (tO)
       ·
        replace hc20 := hs_ hc20
        refine g_seq ?_
        refine g_region ?_
        refine gl_v rfl (o_move rfl) ?_
        refine gl_v rfl (o_eql rfl rfl) ?_
        refine gl_v rfl (o_assign rfl) ?_
        refine gl_nil ?_
        refine ge_then ?_
        refine g_cond rfl (fun hc21 => ?_) (fun hc21 => ?_)
        ·
         replace hc21 := hs_ hc21
         refine g_seq ?_
         refine g_region ?_
         refine gl_v rfl (o_assign rfl) ?_
         refine gl_nil ?_
         refine ge_then ?_
         refine g_ret ?_
         refine ge_block_ret ?_
         refine ge_then_ret ?_
         refine ret1 (.inl rfl) rfl rfl _ (⟨by (try simp only [Bool.not_false, Bool.not_true, decide_eq_true_eq, decide_eq_false_iff_not] at *); refine congrArg (Value.int .i64) ?_; unfold isc isBlank isLet isDig isSign; simp only [decide_eq_true_eq]; (repeat' split) <;> first | rfl | omega, rfl⟩) (tO)
        ·
         replace hc21 := hs_ hc21
         refine g_seq ?_
         refine g_region ?_
         refine gl_v rfl (o_move rfl) ?_
         refine gl_v rfl (o_eql rfl rfl) ?_
         refine gl_v rfl (o_move rfl) ?_
         refine gl_g rfl rfl (fun hc22 => ?_) (fun hc22 => ?_) rfl
         ·
          have hc22' := hc22
          replace hc22' := hs_ hc22'
          refine gl_v rfl (o_move rfl) ?_
          refine gl_gT rfl rfl hc22 ?_
          refine gl_v rfl (o_eql rfl rfl) ?_
          refine gl_v rfl (o_pickF hc22 rfl rfl) ?_
          refine gl_v rfl (o_move rfl) ?_
          refine gl_g rfl rfl (fun hc23 => ?_) (fun hc23 => ?_) rfl
          ·
           have hc23' := hc23
           replace hc23' := hs_ hc23'
           refine gl_v rfl (o_move rfl) ?_
           refine gl_gT rfl rfl hc23 ?_
           refine gl_v rfl (o_eql rfl rfl) ?_
           refine gl_v rfl (o_pickF hc23 rfl rfl) ?_
           refine gl_v rfl (o_assign rfl) ?_
           refine gl_nil ?_
           refine ge_then ?_
           refine g_cond rfl (fun hc24 => ?_) (fun hc24 => ?_)
           ·
            replace hc24 := hs_ hc24
            refine g_seq ?_
            refine g_region ?_
            refine gl_v rfl (o_assign rfl) ?_
            refine gl_nil ?_
            refine ge_then ?_
            refine g_ret ?_
            refine ge_block_ret ?_
            refine ge_then_ret ?_
            refine ret1 (.inl rfl) rfl rfl _ (⟨by (try simp only [Bool.not_false, Bool.not_true, decide_eq_true_eq, decide_eq_false_iff_not] at *); refine congrArg (Value.int .i64) ?_; unfold isc isBlank isLet isDig isSign; simp only [decide_eq_true_eq]; (repeat' split) <;> first | rfl | omega, rfl⟩) (tO)
           ·
            replace hc24 := hs_ hc24
            refine g_seq ?_
            refine g_region ?_
            refine gl_v rfl (o_move rfl) ?_
            refine gl_v rfl (o_eql rfl rfl) ?_
            refine gl_v rfl (o_assign rfl) ?_
            refine gl_nil ?_
            refine ge_then ?_
            refine g_cond rfl (fun hc25 => ?_) (fun hc25 => ?_)
            ·
             replace hc25 := hs_ hc25
             refine g_seq ?_
             refine g_region ?_
             refine gl_v rfl (o_assign rfl) ?_
             refine gl_nil ?_
             refine ge_then ?_
             refine g_ret ?_
             refine ge_block_ret ?_
             refine ge_then_ret ?_
             refine ret1 (.inl rfl) rfl rfl _ (⟨by (try simp only [Bool.not_false, Bool.not_true, decide_eq_true_eq, decide_eq_false_iff_not] at *); refine congrArg (Value.int .i64) ?_; unfold isc isBlank isLet isDig isSign; simp only [decide_eq_true_eq]; (repeat' split) <;> first | rfl | omega, rfl⟩) (tO)
            ·
             replace hc25 := hs_ hc25
             refine g_skip ?_
             refine ge_block ?_
             refine ge_then ?_
             refine g_seq ?_
             refine g_region ?_
             refine gl_v rfl (o_assign rfl) ?_
             refine gl_nil ?_
             refine ge_then ?_
             refine g_ret ?_
             refine ret1 (.inl rfl) rfl rfl _ (⟨by (try simp only [Bool.not_false, Bool.not_true, decide_eq_true_eq, decide_eq_false_iff_not] at *); refine congrArg (Value.int .i64) ?_; unfold isc isBlank isLet isDig isSign; simp only [decide_eq_true_eq]; (repeat' split) <;> first | rfl | omega, rfl⟩) (tO)
          ·
           have hc23' := hc23
           replace hc23' := hs_ hc23'
           simp only [putO]
           refine gl_gF rfl rfl hc23 rfl ?_
           refine gl_v rfl (o_pickT hc23 rfl rfl) ?_
           refine gl_v rfl (o_assign rfl) ?_
           refine gl_nil ?_
           refine ge_then ?_
           refine g_cond_true rfl ?_
           refine g_seq ?_
           refine g_region ?_
           refine gl_v rfl (o_assign rfl) ?_
           refine gl_nil ?_
           refine ge_then ?_
           refine g_ret ?_
           refine ge_block_ret ?_
           refine ge_then_ret ?_
           refine ret1 (.inl rfl) rfl rfl _ (⟨by (try simp only [Bool.not_false, Bool.not_true, decide_eq_true_eq, decide_eq_false_iff_not] at *); refine congrArg (Value.int .i64) ?_; unfold isc isBlank isLet isDig isSign; simp only [decide_eq_true_eq]; (repeat' split) <;> first | rfl | omega, rfl⟩) (tO)
         ·
          have hc22' := hc22
          replace hc22' := hs_ hc22'
          simp only [putO]
          refine gl_gF rfl rfl hc22 rfl ?_
          refine gl_v rfl (o_pickT hc22 rfl rfl) ?_
          refine gl_v rfl (o_move rfl) ?_
          refine gl_gF rfl rfl rfl rfl ?_
          refine gl_gF rfl rfl rfl rfl ?_
          refine gl_v rfl (o_pickT rfl rfl rfl) ?_
          refine gl_v rfl (o_assign rfl) ?_
          refine gl_nil ?_
          refine ge_then ?_
          refine g_cond_true rfl ?_
          refine g_seq ?_
          refine g_region ?_
          refine gl_v rfl (o_assign rfl) ?_
          refine gl_nil ?_
          refine ge_then ?_
          refine g_ret ?_
          refine ge_block_ret ?_
          refine ge_then_ret ?_
          refine ret1 (.inl rfl) rfl rfl _ (⟨by (try simp only [Bool.not_false, Bool.not_true, decide_eq_true_eq, decide_eq_false_iff_not] at *); refine congrArg (Value.int .i64) ?_; unfold isc isBlank isLet isDig isSign; simp only [decide_eq_true_eq]; (repeat' split) <;> first | rfl | omega, rfl⟩) (tO)
      ·
       have hc19' := hc19
       replace hc19' := hs_ hc19'
       simp only [putO]
       refine gl_gF rfl rfl hc19 rfl ?_
       refine gl_v rfl (o_pickF hc19 rfl rfl) ?_
       refine gl_v rfl (o_assign rfl) ?_
       refine gl_nil ?_
       refine ge_then ?_
       refine g_cond_false rfl ?_
       refine g_seq ?_
       refine g_region ?_
       refine gl_v rfl (o_move rfl) ?_
       refine gl_v rfl (o_eql rfl rfl) ?_
       refine gl_v rfl (o_assign rfl) ?_
       refine gl_nil ?_
       refine ge_then ?_
       refine g_cond rfl (fun hc26 => ?_) (fun hc26 => ?_)
       ·
        replace hc26 := hs_ hc26
        refine g_seq ?_
        refine g_region ?_
        refine gl_v rfl (o_assign rfl) ?_
        refine gl_nil ?_
        refine ge_then ?_
        refine g_ret ?_
        refine ge_block_ret ?_
        refine ge_then_ret ?_
        refine ret1 (.inl rfl) rfl rfl _ (⟨by (try simp only [Bool.not_false, Bool.not_true, decide_eq_true_eq, decide_eq_false_iff_not] at *); refine congrArg (Value.int .i64) ?_; unfold isc isBlank isLet isDig isSign; simp only [decide_eq_true_eq]; (repeat' split) <;> first | rfl | omega, rfl⟩) (tO)
       ·
        replace hc26 := hs_ hc26
        refine g_seq ?_
        refine g_region ?_
        refine gl_v rfl (o_move rfl) ?_
        refine gl_v rfl (o_eql rfl rfl) ?_
        refine gl_v rfl (o_move rfl) ?_
        refine gl_g rfl rfl (fun hc27 => ?_) (fun hc27 => ?_) rfl
        ·
         have hc27' := hc27
         replace hc27' := hs_ hc27'
         refine gl_v rfl (o_move rfl) ?_
         refine gl_gT rfl rfl hc27 ?_
         refine gl_v rfl (o_eql rfl rfl) ?_
         refine gl_v rfl (o_pickF hc27 rfl rfl) ?_
         refine gl_v rfl (o_move rfl) ?_
         refine gl_g rfl rfl (fun hc28 => ?_) (fun hc28 => ?_) rfl
         ·
          have hc28' := hc28
          replace hc28' := hs_ hc28'
          refine gl_v rfl (o_move rfl) ?_
          refine gl_gT rfl rfl hc28 ?_
          refine gl_v rfl (o_eql rfl rfl) ?_
          refine gl_v rfl (o_pickF hc28 rfl rfl) ?_
          refine gl_v rfl (o_assign rfl) ?_
          refine gl_nil ?_
          refine ge_then ?_
          refine g_cond rfl (fun hc29 => ?_) (fun hc29 => ?_)
          ·
           replace hc29 := hs_ hc29
           refine g_seq ?_
           refine g_region ?_
           refine gl_v rfl (o_assign rfl) ?_
           refine gl_nil ?_
           refine ge_then ?_
           refine g_ret ?_
           refine ge_block_ret ?_
           refine ge_then_ret ?_
           refine ret1 (.inl rfl) rfl rfl _ (⟨by (try simp only [Bool.not_false, Bool.not_true, decide_eq_true_eq, decide_eq_false_iff_not] at *); refine congrArg (Value.int .i64) ?_; unfold isc isBlank isLet isDig isSign; simp only [decide_eq_true_eq]; (repeat' split) <;> first | rfl | omega, rfl⟩) (tO)
          ·
           replace hc29 := hs_ hc29
           refine g_seq ?_
           refine g_region ?_
           refine gl_v rfl (o_move rfl) ?_
           refine gl_v rfl (o_eql rfl rfl) ?_
           refine gl_v rfl (o_assign rfl) ?_
           refine gl_nil ?_
           refine ge_then ?_
           refine g_cond rfl (fun hc30 => ?_) (fun hc30 => ?_)
           ·
            replace hc30 := hs_ hc30
            refine g_seq ?_
            refine g_region ?_
            refine gl_v rfl (o_assign rfl) ?_
            refine gl_nil ?_
            refine ge_then ?_
            refine g_ret ?_
            refine ge_block_ret ?_
            refine ge_then_ret ?_
            refine ret1 (.inl rfl) rfl rfl _ (⟨by (try simp only [Bool.not_false, Bool.not_true, decide_eq_true_eq, decide_eq_false_iff_not] at *); refine congrArg (Value.int .i64) ?_; unfold isc isBlank isLet isDig isSign; simp only [decide_eq_true_eq]; (repeat' split) <;> first | rfl | omega, rfl⟩) (tO)
           ·
            replace hc30 := hs_ hc30
            refine g_skip ?_
            refine ge_block ?_
            refine ge_then ?_
            refine g_seq ?_
            refine g_region ?_
            refine gl_v rfl (o_assign rfl) ?_
            refine gl_nil ?_
            refine ge_then ?_
            refine g_ret ?_
            refine ret1 (.inl rfl) rfl rfl _ (⟨by (try simp only [Bool.not_false, Bool.not_true, decide_eq_true_eq, decide_eq_false_iff_not] at *); refine congrArg (Value.int .i64) ?_; unfold isc isBlank isLet isDig isSign; simp only [decide_eq_true_eq]; (repeat' split) <;> first | rfl | omega, rfl⟩) (tO)
         ·
          have hc28' := hc28
          replace hc28' := hs_ hc28'
          simp only [putO]
          refine gl_gF rfl rfl hc28 rfl ?_
          refine gl_v rfl (o_pickT hc28 rfl rfl) ?_
          refine gl_v rfl (o_assign rfl) ?_
          refine gl_nil ?_
          refine ge_then ?_
          refine g_cond_true rfl ?_
          refine g_seq ?_
          refine g_region ?_
          refine gl_v rfl (o_assign rfl) ?_
          refine gl_nil ?_
          refine ge_then ?_
          refine g_ret ?_
          refine ge_block_ret ?_
          refine ge_then_ret ?_
          refine ret1 (.inl rfl) rfl rfl _ (⟨by (try simp only [Bool.not_false, Bool.not_true, decide_eq_true_eq, decide_eq_false_iff_not] at *); refine congrArg (Value.int .i64) ?_; unfold isc isBlank isLet isDig isSign; simp only [decide_eq_true_eq]; (repeat' split) <;> first | rfl | omega, rfl⟩) (tO)
        ·
         have hc27' := hc27
         replace hc27' := hs_ hc27'
         simp only [putO]
         refine gl_gF rfl rfl hc27 rfl ?_
         refine gl_v rfl (o_pickT hc27 rfl rfl) ?_
         refine gl_v rfl (o_move rfl) ?_
         refine gl_gF rfl rfl rfl rfl ?_
         refine gl_gF rfl rfl rfl rfl ?_
         refine gl_v rfl (o_pickT rfl rfl rfl) ?_
         refine gl_v rfl (o_assign rfl) ?_
         refine gl_nil ?_
         refine ge_then ?_
         refine g_cond_true rfl ?_
         refine g_seq ?_
         refine g_region ?_
         refine gl_v rfl (o_assign rfl) ?_
         refine gl_nil ?_
         refine ge_then ?_
         refine g_ret ?_
         refine ge_block_ret ?_
         refine ge_then_ret ?_
         refine ret1 (.inl rfl) rfl rfl _ (⟨by (try simp only [Bool.not_false, Bool.not_true, decide_eq_true_eq, decide_eq_false_iff_not] at *); refine congrArg (Value.int .i64) ?_; unfold isc isBlank isLet isDig isSign; simp only [decide_eq_true_eq]; (repeat' split) <;> first | rfl | omega, rfl⟩) (tO)
   ·
    have hc3' := hc3
    replace hc3' := hs_ hc3'
    simp only [putO]
    refine gl_gF rfl rfl hc3 rfl ?_
    refine gl_v rfl (o_pickT hc3 rfl rfl) ?_
    refine gl_v rfl (o_assign rfl) ?_
    refine gl_nil ?_
    refine ge_then ?_
    refine g_cond_true rfl ?_
    refine g_seq ?_
    refine g_region ?_
    refine gl_v rfl (o_assign rfl) ?_
    refine gl_nil ?_
    refine ge_then ?_
    refine g_ret ?_
    refine ge_block_ret ?_
    refine ge_then_ret ?_
    refine ret1 (.inl rfl) rfl rfl _ (⟨by (try simp only [Bool.not_false, Bool.not_true, decide_eq_true_eq, decide_eq_false_iff_not] at *); refine congrArg (Value.int .i64) ?_; unfold isc isBlank isLet isDig isSign; simp only [decide_eq_true_eq]; (repeat' split) <;> first | rfl | omega, rfl⟩) (tO)
  ·
   have hc2' := hc2
   replace hc2' := hs_ hc2'
   simp only [putO]
   refine gl_gF rfl rfl hc2 rfl ?_
   refine gl_v rfl (o_pickT hc2 rfl rfl) ?_
   refine gl_v rfl (o_move rfl) ?_
   refine gl_gF rfl rfl rfl rfl ?_
   refine gl_gF rfl rfl rfl rfl ?_
   refine gl_v rfl (o_pickT rfl rfl rfl) ?_
   refine gl_v rfl (o_assign rfl) ?_
   refine gl_nil ?_
   refine ge_then ?_
   refine g_cond_true rfl ?_
   refine g_seq ?_
   refine g_region ?_
   refine gl_v rfl (o_assign rfl) ?_
   refine gl_nil ?_
   refine ge_then ?_
   refine g_ret ?_
   refine ge_block_ret ?_
   refine ge_then_ret ?_
   refine ret1 (.inl rfl) rfl rfl _ (⟨by (try simp only [Bool.not_false, Bool.not_true, decide_eq_true_eq, decide_eq_false_iff_not] at *); refine congrArg (Value.int .i64) ?_; unfold isc isBlank isLet isDig isSign; simp only [decide_eq_true_eq]; (repeat' split) <;> first | rfl | omega, rfl⟩) (tO)
 ·
  have hc1' := hc1
  replace hc1' := hs_ hc1'
  simp only [putO]
  refine gl_gF rfl rfl hc1 rfl ?_
  refine gl_v rfl (o_pickT hc1 rfl rfl) ?_
  refine gl_v rfl (o_move rfl) ?_
  refine gl_gF rfl rfl rfl rfl ?_
  refine gl_gF rfl rfl rfl rfl ?_
  refine gl_v rfl (o_pickT rfl rfl rfl) ?_
  refine gl_v rfl (o_move rfl) ?_
  refine gl_gF rfl rfl rfl rfl ?_
  refine gl_gF rfl rfl rfl rfl ?_
  refine gl_v rfl (o_pickT rfl rfl rfl) ?_
  refine gl_v rfl (o_assign rfl) ?_
  refine gl_nil ?_
  refine ge_then ?_
  refine g_cond_true rfl ?_
  refine g_seq ?_
  refine g_region ?_
  refine gl_v rfl (o_assign rfl) ?_
  refine gl_nil ?_
  refine ge_then ?_
  refine g_ret ?_
  refine ge_block_ret ?_
  refine ge_then_ret ?_
  refine ret1 (.inl rfl) rfl rfl _ (⟨by (try simp only [Bool.not_false, Bool.not_true, decide_eq_true_eq, decide_eq_false_iff_not] at *); refine congrArg (Value.int .i64) ?_; unfold isc isBlank isLet isDig isSign; simp only [decide_eq_true_eq]; (repeat' split) <;> first | rfl | omega, rfl⟩) (tO)

set_option maxRecDepth 8000 in
set_option maxHeartbeats 400000 in
theorem RName_spec (l : By) (hl : l.length ≤ 9223372036854775807) : FnS Tryz.prog 34 [S l] [] (fun u Bs => u = .bool (isName l) ∧ Bs = []) := by
 refine fn_body Tryz.func34 rfl rfl rfl ?_
 intro W0 R
 simp only [List.zipIdx_cons, List.zipIdx_nil, List.map_cons, List.map_nil, Nat.zero_add, Nat.reduceAdd, List.cons_append, List.nil_append]
 refine g_seq ?_
 refine g_region ?_
 refine gl_v rfl (o_assign rfl) ?_
 refine gl_nil ?_
 refine ge_then ?_
 refine g_seq ?_
 refine g_seq ?_
 refine g_region ?_
 refine gl_v rfl (o_move rfl) ?_
 refine gl_v rfl (o_lens rfl) ?_
 refine gl_v rfl (o_lss rfl rfl) ?_
 refine gl_v rfl (o_move rfl) ?_
 refine gl_g rfl rfl (fun hc1 => ?_) (fun hc1 => ?_) rfl
 ·
  have hc1' := hc1
  replace hc1' := hs_ hc1'
  refine gl_v rfl (o_move rfl) ?_
  refine gl_gT rfl rfl hc1 ?_
  refine gl_v rfl (o_lens rfl) ?_
  refine gl_gT rfl rfl hc1 ?_
  refine gl_v rfl (o_gtr rfl rfl) ?_
  refine gl_v rfl (o_pickF hc1 rfl rfl) ?_
  refine gl_v rfl (o_move rfl) ?_
  refine gl_g rfl rfl (fun hc2 => ?_) (fun hc2 => ?_) rfl
  ·
   have hc2' := hc2
   replace hc2' := hs_ hc2'
   refine gl_v rfl (o_move rfl) ?_
   refine gl_gT rfl rfl hc2 ?_
   obtain ⟨c, r, rfl⟩ : ∃ c r, l = c :: r := by
     cases l with
     | nil => simp at *
     | cons c r => exact ⟨c, r, rfl⟩
   refine gl_v rfl (o_index_string rfl rfl (rfl)) ?_
   refine gl_gT rfl rfl hc2 ?_
   refine gl_c rfl (o_call rfl (Is_spec c) pA) ?_
   rintro _ R ⟨_, ⟨rfl, rfl⟩, rfl⟩
   try simp only [List.cons_append, List.nil_append]
   refine gl_gT rfl rfl hc2 ?_
   refine gl_v rfl (o_neq rfl rfl) ?_
   refine gl_v rfl (o_pickF hc2 rfl rfl) ?_
   refine gl_nil ?_
   refine ge_then ?_
   refine g_cond rfl (fun hc3 => ?_) (fun hc3 => ?_)
   ·
    replace hc3 := hs_ hc3
    refine g_seq ?_
    refine g_region ?_
    refine gl_v rfl (o_assign rfl) ?_
    refine gl_nil ?_
    refine ge_then ?_
    refine g_ret ?_
    refine ge_then_ret ?_
    refine ret1 (.inl rfl) rfl rfl _ (⟨by first | (rw [name_all hlc h16, hs, spn_no hg (in_f (by omega))]; refine bool_eq ?_; simp only [decide_eq_true_eq, Bool.false_eq_true, false_iff]; omega) | (rw [name_all hlc h16, hs, spn_end (by omega)]; refine bool_eq ?_; simp only [decide_eq_true_eq, true_iff]; omega) | rw [name_long (by omega)] | rw [name_nolet (let_f (by omega))] | (have : l = [] := List.eq_nil_of_length_eq_zero (by omega); subst this; rfl), rfl⟩) (tO)
   ·
    replace hc3 := hs_ hc3
    refine g_skip ?_
    refine ge_then ?_
    refine g_seq ?_
    refine g_seq ?_
    obtain ⟨hlc, h16⟩ : isc c = 2 ∧ (c :: r).length ≤ 16 := by constructor <;> omega
    replace hlc := (isc_let c).1 hlc
    refine g_region ?_
    refine gl_v rfl (o_assign rfl) ?_
    refine gl_nil ?_
    refine ge_then ?_
    refine g_block ?_
    refine g_loop (ι := Nat) (fun x => x ≤ (c :: r).length ∧ spn isIn (c :: r) = x + spn isIn ((c :: r).drop x)) (fun x => [(3, I64 x), (0, S (c :: r))]) (fun _ => R) (fun x => (c :: r).length - x) 0 (⟨Nat.zero_le _, by rw [List.drop_zero, Nat.zero_add]⟩) (Keep.cons rfl (Keep.cons rfl (Keep.nil))) (tO) ?_
    rintro x ⟨hx, hs⟩
    replace hx : x ≤ (c :: r).length := hx
    replace hs : spn isIn (c :: r) = x + spn isIn ((c :: r).drop x) := hs
    refine g_seq ?_
    refine g_seq ?_
    refine g_region ?_
    refine gl_v rfl (o_move rfl) ?_
    refine gl_v rfl (o_move rfl) ?_
    refine gl_v rfl (o_lens rfl) ?_
    refine gl_v rfl (o_lss rfl rfl) ?_
    refine gl_nil ?_
    refine ge_then ?_
    refine g_cond rfl (fun hc4 => ?_) (fun hc4 => ?_)
    ·
     replace hc4 := hs_ hc4
     refine g_skip ?_
     refine ge_then ?_
     refine g_seq ?_
     refine g_block ?_
     refine g_seq ?_
     refine g_region ?_
     refine gl_v rfl (o_move rfl) ?_
     refine gl_v rfl (o_move rfl) ?_
     obtain ⟨d, hg⟩ : ∃ d, (c :: r)[x]? = some d := ⟨_, List.getElem?_eq_getElem (show x < (c :: r).length by omega)⟩
     refine gl_v rfl (o_index_string rfl rfl (hg)) ?_
     refine gl_c rfl (o_call rfl (Is_spec d) pA) ?_
     rintro _ R ⟨_, ⟨rfl, rfl⟩, rfl⟩
     try simp only [List.cons_append, List.nil_append]
     refine gl_v rfl (o_assign rfl) ?_
     refine gl_nil ?_
     refine ge_then ?_
     refine g_seq ?_
     refine g_region ?_
     refine gl_v rfl (o_move rfl) ?_
     refine gl_v rfl (o_neq rfl rfl) ?_
     refine gl_v rfl (o_move rfl) ?_
     refine gl_g rfl rfl (fun hc5 => ?_) (fun hc5 => ?_) rfl
     ·
      have hc5' := hc5
      replace hc5' := hs_ hc5'
      refine gl_v rfl (o_move rfl) ?_
      refine gl_gT rfl rfl hc5 ?_
      refine gl_v rfl (o_neq rfl rfl) ?_
      refine gl_v rfl (o_pickT hc5 rfl rfl) ?_
      refine gl_v rfl (o_move rfl) ?_
      refine gl_g rfl rfl (fun hc6 => ?_) (fun hc6 => ?_) rfl
      ·
       have hc6' := hc6
       replace hc6' := hs_ hc6'
       refine gl_v rfl (o_move rfl) ?_
       refine gl_gT rfl rfl hc6 ?_
       refine gl_v rfl (o_neq rfl rfl) ?_
       refine gl_v rfl (o_pickT hc6 rfl rfl) ?_
       refine gl_nil ?_
       refine ge_then ?_
       refine g_cond rfl (fun hc7 => ?_) (fun hc7 => ?_)
       ·
        replace hc7 := hs_ hc7
        refine g_seq ?_
        refine g_region ?_
        refine gl_v rfl (o_assign rfl) ?_
        refine gl_nil ?_
        refine ge_then ?_
        refine g_ret ?_
        refine ge_block_ret ?_
        refine ge_then_ret ?_
        refine ge_then_ret ?_
        refine ge_block_ret ?_
        refine ge_then_ret ?_
        refine ret1 (.inl rfl) rfl rfl _ (⟨by first | (rw [name_all hlc h16, hs, spn_no hg (in_f (by omega))]; refine bool_eq ?_; simp only [decide_eq_true_eq, Bool.false_eq_true, false_iff]; omega) | (rw [name_all hlc h16, hs, spn_end (by omega)]; refine bool_eq ?_; simp only [decide_eq_true_eq, true_iff]; omega) | rw [name_long (by omega)] | rw [name_nolet (let_f (by omega))] | (have : l = [] := List.eq_nil_of_length_eq_zero (by omega); subst this; rfl), rfl⟩) (tO)
       ·
        replace hc7 := hs_ hc7
        refine g_skip ?_
        refine ge_block ?_
        refine ge_then ?_
        refine g_region ?_
        refine gl_v rfl (o_move rfl) ?_
        refine gl_v rfl (o_addR (((x + 1 : Nat) : Int)) (by rw [wr_i64 (by omega)]; omega) rfl rfl) ?_
        refine gl_v rfl (o_assign rfl) ?_
        refine gl_nil ?_
        have hi : isIn d = true := (isc_in d).2 (by omega)
        refine ge_round (x + 1) ⟨show x + 1 ≤ (c :: r).length by omega, show spn isIn (c :: r) = x + 1 + spn isIn ((c :: r).drop (x + 1)) by rw [hs, spn_step hg hi]; omega⟩ (show (c :: r).length - (x + 1) < (c :: r).length - x by omega) (Keep.cons rfl (Keep.cons rfl (Keep.nil))) (tO)
      ·
       have hc6' := hc6
       replace hc6' := hs_ hc6'
       simp only [putO]
       refine gl_gF rfl rfl hc6 rfl ?_
       refine gl_v rfl (o_pickF hc6 rfl rfl) ?_
       refine gl_nil ?_
       refine ge_then ?_
       refine g_cond_false rfl ?_
       refine g_skip ?_
       refine ge_block ?_
       refine ge_then ?_
       refine g_region ?_
       refine gl_v rfl (o_move rfl) ?_
       refine gl_v rfl (o_addR (((x + 1 : Nat) : Int)) (by rw [wr_i64 (by omega)]; omega) rfl rfl) ?_
       refine gl_v rfl (o_assign rfl) ?_
       refine gl_nil ?_
       have hi : isIn d = true := (isc_in d).2 (by omega)
       refine ge_round (x + 1) ⟨show x + 1 ≤ (c :: r).length by omega, show spn isIn (c :: r) = x + 1 + spn isIn ((c :: r).drop (x + 1)) by rw [hs, spn_step hg hi]; omega⟩ (show (c :: r).length - (x + 1) < (c :: r).length - x by omega) (Keep.cons rfl (Keep.cons rfl (Keep.nil))) (tO)
     ·
      have hc5' := hc5
      replace hc5' := hs_ hc5'
      simp only [putO]
      refine gl_gF rfl rfl hc5 rfl ?_
      refine gl_v rfl (o_pickF hc5 rfl rfl) ?_
      refine gl_v rfl (o_move rfl) ?_
      refine gl_gF rfl rfl rfl rfl ?_
      refine gl_gF rfl rfl rfl rfl ?_
      refine gl_v rfl (o_pickF rfl rfl rfl) ?_
      refine gl_nil ?_
      refine ge_then ?_
      refine g_cond_false rfl ?_
      refine g_skip ?_
      refine ge_block ?_
      refine ge_then ?_
      refine g_region ?_
      refine gl_v rfl (o_move rfl) ?_
      refine gl_v rfl (o_addR (((x + 1 : Nat) : Int)) (by rw [wr_i64 (by omega)]; omega) rfl rfl) ?_
      refine gl_v rfl (o_assign rfl) ?_
      refine gl_nil ?_
      have hi : isIn d = true := (isc_in d).2 (by omega)
      refine ge_round (x + 1) ⟨show x + 1 ≤ (c :: r).length by omega, show spn isIn (c :: r) = x + 1 + spn isIn ((c :: r).drop (x + 1)) by rw [hs, spn_step hg hi]; omega⟩ (show (c :: r).length - (x + 1) < (c :: r).length - x by omega) (Keep.cons rfl (Keep.cons rfl (Keep.nil))) (tO)
    ·
     replace hc4 := hs_ hc4
     refine g_exit ?_
     refine ge_then_exit ?_
     refine ge_then_exit ?_
     refine ge_block_exit ?_
     refine ge_then ?_
     refine g_seq ?_
     refine g_region ?_
     refine gl_v rfl (o_assign rfl) ?_
     refine gl_nil ?_
     refine ge_then ?_
     refine g_ret ?_
     refine ret1 (.inl rfl) rfl rfl _ (⟨by first | (rw [name_all hlc h16, hs, spn_no hg (in_f (by omega))]; refine bool_eq ?_; simp only [decide_eq_true_eq, Bool.false_eq_true, false_iff]; omega) | (rw [name_all hlc h16, hs, spn_end (by omega)]; refine bool_eq ?_; simp only [decide_eq_true_eq, true_iff]; omega) | rw [name_long (by omega)] | rw [name_nolet (let_f (by omega))] | (have : l = [] := List.eq_nil_of_length_eq_zero (by omega); subst this; rfl), rfl⟩) (tO)
  ·
   have hc2' := hc2
   replace hc2' := hs_ hc2'
   simp only [putO]
   refine gl_gF rfl rfl hc2 rfl ?_
   refine gl_gF rfl rfl hc2 rfl ?_
   refine gl_gF rfl rfl hc2 rfl ?_
   refine gl_v rfl (o_pickT hc2 rfl rfl) ?_
   refine gl_nil ?_
   refine ge_then ?_
   refine g_cond_true rfl ?_
   refine g_seq ?_
   refine g_region ?_
   refine gl_v rfl (o_assign rfl) ?_
   refine gl_nil ?_
   refine ge_then ?_
   refine g_ret ?_
   refine ge_then_ret ?_
   refine ret1 (.inl rfl) rfl rfl _ (⟨by first | (rw [name_all hlc h16, hs, spn_no hg (in_f (by omega))]; refine bool_eq ?_; simp only [decide_eq_true_eq, Bool.false_eq_true, false_iff]; omega) | (rw [name_all hlc h16, hs, spn_end (by omega)]; refine bool_eq ?_; simp only [decide_eq_true_eq, true_iff]; omega) | rw [name_long (by omega)] | rw [name_nolet (let_f (by omega))] | (have : l = [] := List.eq_nil_of_length_eq_zero (by omega); subst this; rfl), rfl⟩) (tO)
 ·
  have hc1' := hc1
  replace hc1' := hs_ hc1'
  simp only [putO]
  refine gl_gF rfl rfl hc1 rfl ?_
  refine gl_gF rfl rfl hc1 rfl ?_
  refine gl_v rfl (o_pickT hc1 rfl rfl) ?_
  refine gl_v rfl (o_move rfl) ?_
  refine gl_gF rfl rfl rfl rfl ?_
  refine gl_gF rfl rfl rfl rfl ?_
  refine gl_gF rfl rfl rfl rfl ?_
  refine gl_gF rfl rfl rfl rfl ?_
  refine gl_v rfl (o_pickT rfl rfl rfl) ?_
  refine gl_nil ?_
  refine ge_then ?_
  refine g_cond_true rfl ?_
  refine g_seq ?_
  refine g_region ?_
  refine gl_v rfl (o_assign rfl) ?_
  refine gl_nil ?_
  refine ge_then ?_
  refine g_ret ?_
  refine ge_then_ret ?_
  refine ret1 (.inl rfl) rfl rfl _ (⟨by first | (rw [name_all hlc h16, hs, spn_no hg (in_f (by omega))]; refine bool_eq ?_; simp only [decide_eq_true_eq, Bool.false_eq_true, false_iff]; omega) | (rw [name_all hlc h16, hs, spn_end (by omega)]; refine bool_eq ?_; simp only [decide_eq_true_eq, true_iff]; omega) | rw [name_long (by omega)] | rw [name_nolet (let_f (by omega))] | (have : l = [] := List.eq_nil_of_length_eq_zero (by omega); subst this; rfl), rfl⟩) (tO)

attribute [local irreducible] isName
set_option maxRecDepth 8000 in
set_option maxHeartbeats 1000000 in
theorem Verb_spec (d : Int) : FnS Tryz.prog 76 [I64 d] [] (fun u Bs => u = .tuple #[S (verb d).1, S (verb d).2] ∧ Bs = []) := by
 refine fn_body Tryz.func76 rfl rfl rfl ?_
 intro W0 R
 simp only [List.zipIdx_cons, List.zipIdx_nil, List.map_cons, List.map_nil, Nat.zero_add, Nat.reduceAdd, List.cons_append, List.nil_append]
 refine g_seq ?_
 refine g_region ?_
 refine gl_v rfl (o_assign rfl) ?_
 refine gl_v rfl (o_assign rfl) ?_
 refine gl_nil ?_
 refine ge_then ?_
 refine g_seq ?_
 refine g_seq ?_
 refine g_region ?_
 refine gl_v rfl (o_move rfl) ?_
 refine gl_nil ?_
 refine ge_then ?_
 refine g_block ?_
 refine g_seq ?_
 refine g_region ?_
 refine gl_v rfl (o_eql rfl rfl) ?_
 refine gl_v rfl (o_assign rfl) ?_
 refine gl_nil ?_
 refine ge_then ?_
 refine g_cond rfl (fun hc1 => ?_) (fun hc1 => ?_)
 ·
  replace hc1 := hs_ hc1
  refine g_seq ?_
  refine g_region ?_
  refine gl_v rfl (o_assign rfl) ?_
  refine gl_v rfl (o_assign rfl) ?_
  refine gl_nil ?_
  refine ge_then ?_
  refine g_ret ?_
  refine ge_block_ret ?_
  refine ge_then_ret ?_
  refine ret2 (.inl rfl) rfl rfl rfl  [] ⟨by first | (subst_vars; rfl) | (rw [verb0] <;> first | rfl | assumption), rfl⟩ (tO)
 ·
  replace hc1 := hs_ hc1
  refine g_seq ?_
  refine g_region ?_
  refine gl_v rfl (o_eql rfl rfl) ?_
  refine gl_v rfl (o_assign rfl) ?_
  refine gl_nil ?_
  refine ge_then ?_
  refine g_cond rfl (fun hc2 => ?_) (fun hc2 => ?_)
  ·
   replace hc2 := hs_ hc2
   refine g_seq ?_
   refine g_region ?_
   refine gl_v rfl (o_assign rfl) ?_
   refine gl_v rfl (o_assign rfl) ?_
   refine gl_nil ?_
   refine ge_then ?_
   refine g_ret ?_
   refine ge_block_ret ?_
   refine ge_then_ret ?_
   refine ret2 (.inl rfl) rfl rfl rfl  [] ⟨by first | (subst_vars; rfl) | (rw [verb0] <;> first | rfl | assumption), rfl⟩ (tO)
  ·
   replace hc2 := hs_ hc2
   refine g_seq ?_
   refine g_region ?_
   refine gl_v rfl (o_eql rfl rfl) ?_
   refine gl_v rfl (o_assign rfl) ?_
   refine gl_nil ?_
   refine ge_then ?_
   refine g_cond rfl (fun hc3 => ?_) (fun hc3 => ?_)
   ·
    replace hc3 := hs_ hc3
    refine g_seq ?_
    refine g_region ?_
    refine gl_v rfl (o_assign rfl) ?_
    refine gl_v rfl (o_assign rfl) ?_
    refine gl_nil ?_
    refine ge_then ?_
    refine g_ret ?_
    refine ge_block_ret ?_
    refine ge_then_ret ?_
    refine ret2 (.inl rfl) rfl rfl rfl  [] ⟨by first | (subst_vars; rfl) | (rw [verb0] <;> first | rfl | assumption), rfl⟩ (tO)
   ·
    replace hc3 := hs_ hc3
    refine g_seq ?_
    refine g_region ?_
    refine gl_v rfl (o_eql rfl rfl) ?_
    refine gl_v rfl (o_assign rfl) ?_
    refine gl_nil ?_
    refine ge_then ?_
    refine g_cond rfl (fun hc4 => ?_) (fun hc4 => ?_)
    ·
     replace hc4 := hs_ hc4
     refine g_seq ?_
     refine g_region ?_
     refine gl_v rfl (o_assign rfl) ?_
     refine gl_v rfl (o_assign rfl) ?_
     refine gl_nil ?_
     refine ge_then ?_
     refine g_ret ?_
     refine ge_block_ret ?_
     refine ge_then_ret ?_
     refine ret2 (.inl rfl) rfl rfl rfl  [] ⟨by first | (subst_vars; rfl) | (rw [verb0] <;> first | rfl | assumption), rfl⟩ (tO)
    ·
     replace hc4 := hs_ hc4
     refine g_seq ?_
     refine g_region ?_
     refine gl_v rfl (o_eql rfl rfl) ?_
     refine gl_v rfl (o_assign rfl) ?_
     refine gl_nil ?_
     refine ge_then ?_
     refine g_cond rfl (fun hc5 => ?_) (fun hc5 => ?_)
     ·
      replace hc5 := hs_ hc5
      refine g_seq ?_
      refine g_region ?_
      refine gl_v rfl (o_assign rfl) ?_
      refine gl_v rfl (o_assign rfl) ?_
      refine gl_nil ?_
      refine ge_then ?_
      refine g_ret ?_
      refine ge_block_ret ?_
      refine ge_then_ret ?_
      refine ret2 (.inl rfl) rfl rfl rfl  [] ⟨by first | (subst_vars; rfl) | (rw [verb0] <;> first | rfl | assumption), rfl⟩ (tO)
     ·
      replace hc5 := hs_ hc5
      refine g_seq ?_
      refine g_region ?_
      refine gl_v rfl (o_eql rfl rfl) ?_
      refine gl_v rfl (o_assign rfl) ?_
      refine gl_nil ?_
      refine ge_then ?_
      refine g_cond rfl (fun hc6 => ?_) (fun hc6 => ?_)
      ·
       replace hc6 := hs_ hc6
       refine g_seq ?_
       refine g_region ?_
       refine gl_v rfl (o_assign rfl) ?_
       refine gl_v rfl (o_assign rfl) ?_
       refine gl_nil ?_
       refine ge_then ?_
       refine g_ret ?_
       refine ge_block_ret ?_
       refine ge_then_ret ?_
       refine ret2 (.inl rfl) rfl rfl rfl  [] ⟨by first | (subst_vars; rfl) | (rw [verb0] <;> first | rfl | assumption), rfl⟩ (tO)
      ·
       replace hc6 := hs_ hc6
       refine g_seq ?_
       refine g_region ?_
       refine gl_v rfl (o_eql rfl rfl) ?_
       refine gl_v rfl (o_assign rfl) ?_
       refine gl_nil ?_
       refine ge_then ?_
       refine g_cond rfl (fun hc7 => ?_) (fun hc7 => ?_)
       ·
        replace hc7 := hs_ hc7
        refine g_seq ?_
        refine g_region ?_
        refine gl_v rfl (o_assign rfl) ?_
        refine gl_v rfl (o_assign rfl) ?_
        refine gl_nil ?_
        refine ge_then ?_
        refine g_ret ?_
        refine ge_block_ret ?_
        refine ge_then_ret ?_
        refine ret2 (.inl rfl) rfl rfl rfl  [] ⟨by first | (subst_vars; rfl) | (rw [verb0] <;> first | rfl | assumption), rfl⟩ (tO)
       ·
        replace hc7 := hs_ hc7
        refine g_seq ?_
        refine g_region ?_
        refine gl_v rfl (o_eql rfl rfl) ?_
        refine gl_v rfl (o_assign rfl) ?_
        refine gl_nil ?_
        refine ge_then ?_
        refine g_cond rfl (fun hc8 => ?_) (fun hc8 => ?_)
        ·
         replace hc8 := hs_ hc8
         refine g_seq ?_
         refine g_region ?_
         refine gl_v rfl (o_assign rfl) ?_
         refine gl_v rfl (o_assign rfl) ?_
         refine gl_nil ?_
         refine ge_then ?_
         refine g_ret ?_
         refine ge_block_ret ?_
         refine ge_then_ret ?_
         refine ret2 (.inl rfl) rfl rfl rfl  [] ⟨by first | (subst_vars; rfl) | (rw [verb0] <;> first | rfl | assumption), rfl⟩ (tO)
        ·
         replace hc8 := hs_ hc8
         refine g_seq ?_
         refine g_region ?_
         refine gl_v rfl (o_eql rfl rfl) ?_
         refine gl_v rfl (o_assign rfl) ?_
         refine gl_nil ?_
         refine ge_then ?_
         refine g_cond rfl (fun hc9 => ?_) (fun hc9 => ?_)
         ·
          replace hc9 := hs_ hc9
          refine g_seq ?_
          refine g_region ?_
          refine gl_v rfl (o_assign rfl) ?_
          refine gl_v rfl (o_assign rfl) ?_
          refine gl_nil ?_
          refine ge_then ?_
          refine g_ret ?_
          refine ge_block_ret ?_
          refine ge_then_ret ?_
          refine ret2 (.inl rfl) rfl rfl rfl  [] ⟨by first | (subst_vars; rfl) | (rw [verb0] <;> first | rfl | assumption), rfl⟩ (tO)
         ·
          replace hc9 := hs_ hc9
          refine g_seq ?_
          refine g_region ?_
          refine gl_v rfl (o_eql rfl rfl) ?_
          refine gl_v rfl (o_assign rfl) ?_
          refine gl_nil ?_
          refine ge_then ?_
          refine g_cond rfl (fun hc10 => ?_) (fun hc10 => ?_)
          ·
           replace hc10 := hs_ hc10
           refine g_seq ?_
           refine g_region ?_
           refine gl_v rfl (o_assign rfl) ?_
           refine gl_v rfl (o_assign rfl) ?_
           refine gl_nil ?_
           refine ge_then ?_
           refine g_ret ?_
           refine ge_block_ret ?_
           refine ge_then_ret ?_
           refine ret2 (.inl rfl) rfl rfl rfl  [] ⟨by first | (subst_vars; rfl) | (rw [verb0] <;> first | rfl | assumption), rfl⟩ (tO)
          ·
           replace hc10 := hs_ hc10
           refine g_seq ?_
           refine g_region ?_
           refine gl_v rfl (o_eql rfl rfl) ?_
           refine gl_v rfl (o_assign rfl) ?_
           refine gl_nil ?_
           refine ge_then ?_
           refine g_cond rfl (fun hc11 => ?_) (fun hc11 => ?_)
           ·
            replace hc11 := hs_ hc11
            refine g_seq ?_
            refine g_region ?_
            refine gl_v rfl (o_assign rfl) ?_
            refine gl_v rfl (o_assign rfl) ?_
            refine gl_nil ?_
            refine ge_then ?_
            refine g_ret ?_
            refine ge_block_ret ?_
            refine ge_then_ret ?_
            refine ret2 (.inl rfl) rfl rfl rfl  [] ⟨by first | (subst_vars; rfl) | (rw [verb0] <;> first | rfl | assumption), rfl⟩ (tO)
           ·
            replace hc11 := hs_ hc11
            refine g_seq ?_
            refine g_region ?_
            refine gl_v rfl (o_eql rfl rfl) ?_
            refine gl_v rfl (o_assign rfl) ?_
            refine gl_nil ?_
            refine ge_then ?_
            refine g_cond rfl (fun hc12 => ?_) (fun hc12 => ?_)
            ·
             replace hc12 := hs_ hc12
             refine g_seq ?_
             refine g_region ?_
             refine gl_v rfl (o_assign rfl) ?_
             refine gl_v rfl (o_assign rfl) ?_
             refine gl_nil ?_
             refine ge_then ?_
             refine g_ret ?_
             refine ge_block_ret ?_
             refine ge_then_ret ?_
             refine ret2 (.inl rfl) rfl rfl rfl  [] ⟨by first | (subst_vars; rfl) | (rw [verb0] <;> first | rfl | assumption), rfl⟩ (tO)
            ·
             replace hc12 := hs_ hc12
             refine g_skip ?_
             refine ge_block ?_
             refine ge_then ?_
             refine g_seq ?_
             refine g_region ?_
             refine gl_v rfl (o_assign rfl) ?_
             refine gl_v rfl (o_assign rfl) ?_
             refine gl_nil ?_
             refine ge_then ?_
             refine g_ret ?_
             refine ret2 (.inl rfl) rfl rfl rfl  [] ⟨by first | (subst_vars; rfl) | (rw [verb0] <;> first | rfl | assumption), rfl⟩ (tO)

set_option maxRecDepth 8000 in
set_option maxHeartbeats 1000000 in
theorem Word_spec (d : Int) : FnS Tryz.prog 36 [I64 d] [] (fun u Bs => u = S (wordD d) ∧ Bs = []) := by
 refine fn_body Tryz.func36 rfl rfl rfl ?_
 intro W0 R
 simp only [List.zipIdx_cons, List.zipIdx_nil, List.map_cons, List.map_nil, Nat.zero_add, Nat.reduceAdd, List.cons_append, List.nil_append]
 refine g_seq ?_
 refine g_region ?_
 refine gl_v rfl (o_assign rfl) ?_
 refine gl_nil ?_
 refine ge_then ?_
 refine g_seq ?_
 refine g_seq ?_
 refine g_region ?_
 refine gl_v rfl (o_move rfl) ?_
 refine gl_nil ?_
 refine ge_then ?_
 refine g_block ?_
 refine g_seq ?_
 refine g_region ?_
 refine gl_v rfl (o_eql rfl rfl) ?_
 refine gl_v rfl (o_assign rfl) ?_
 refine gl_nil ?_
 refine ge_then ?_
 refine g_cond rfl (fun hc1 => ?_) (fun hc1 => ?_)
 ·
  replace hc1 := hs_ hc1
  refine g_seq ?_
  refine g_region ?_
  refine gl_v rfl (o_assign rfl) ?_
  refine gl_nil ?_
  refine ge_then ?_
  refine g_ret ?_
  refine ge_block_ret ?_
  refine ge_then_ret ?_
  refine ret1 (.inl rfl) rfl rfl _ (⟨by unfold wordD; first | (subst_vars; rfl) | (rw [if_neg (by omega), if_neg (by omega), if_neg (by omega), if_neg (by omega)]), rfl⟩) (tO)
 ·
  replace hc1 := hs_ hc1
  refine g_seq ?_
  refine g_region ?_
  refine gl_v rfl (o_eql rfl rfl) ?_
  refine gl_v rfl (o_assign rfl) ?_
  refine gl_nil ?_
  refine ge_then ?_
  refine g_cond rfl (fun hc2 => ?_) (fun hc2 => ?_)
  ·
   replace hc2 := hs_ hc2
   refine g_seq ?_
   refine g_region ?_
   refine gl_v rfl (o_assign rfl) ?_
   refine gl_nil ?_
   refine ge_then ?_
   refine g_ret ?_
   refine ge_block_ret ?_
   refine ge_then_ret ?_
   refine ret1 (.inl rfl) rfl rfl _ (⟨by unfold wordD; first | (subst_vars; rfl) | (rw [if_neg (by omega), if_neg (by omega), if_neg (by omega), if_neg (by omega)]), rfl⟩) (tO)
  ·
   replace hc2 := hs_ hc2
   refine g_seq ?_
   refine g_region ?_
   refine gl_v rfl (o_eql rfl rfl) ?_
   refine gl_v rfl (o_assign rfl) ?_
   refine gl_nil ?_
   refine ge_then ?_
   refine g_cond rfl (fun hc3 => ?_) (fun hc3 => ?_)
   ·
    replace hc3 := hs_ hc3
    refine g_seq ?_
    refine g_region ?_
    refine gl_v rfl (o_assign rfl) ?_
    refine gl_nil ?_
    refine ge_then ?_
    refine g_ret ?_
    refine ge_block_ret ?_
    refine ge_then_ret ?_
    refine ret1 (.inl rfl) rfl rfl _ (⟨by unfold wordD; first | (subst_vars; rfl) | (rw [if_neg (by omega), if_neg (by omega), if_neg (by omega), if_neg (by omega)]), rfl⟩) (tO)
   ·
    replace hc3 := hs_ hc3
    refine g_seq ?_
    refine g_region ?_
    refine gl_v rfl (o_eql rfl rfl) ?_
    refine gl_v rfl (o_assign rfl) ?_
    refine gl_nil ?_
    refine ge_then ?_
    refine g_cond rfl (fun hc4 => ?_) (fun hc4 => ?_)
    ·
     replace hc4 := hs_ hc4
     refine g_seq ?_
     refine g_region ?_
     refine gl_v rfl (o_assign rfl) ?_
     refine gl_nil ?_
     refine ge_then ?_
     refine g_ret ?_
     refine ge_block_ret ?_
     refine ge_then_ret ?_
     refine ret1 (.inl rfl) rfl rfl _ (⟨by unfold wordD; first | (subst_vars; rfl) | (rw [if_neg (by omega), if_neg (by omega), if_neg (by omega), if_neg (by omega)]), rfl⟩) (tO)
    ·
     replace hc4 := hs_ hc4
     refine g_skip ?_
     refine ge_block ?_
     refine ge_then ?_
     refine g_seq ?_
     refine g_region ?_
     refine gl_v rfl (o_assign rfl) ?_
     refine gl_nil ?_
     refine ge_then ?_
     refine g_ret ?_
     refine ret1 (.inl rfl) rfl rfl _ (⟨by unfold wordD; first | (subst_vars; rfl) | (rw [if_neg (by omega), if_neg (by omega), if_neg (by omega), if_neg (by omega)]), rfl⟩) (tO)

set_option maxRecDepth 8000 in
set_option maxHeartbeats 1000000 in
theorem Has_spec (s : By) (c : UInt8) (hs : s.length ≤ 9223372036854775806) : FnS Tryz.prog 97 [S s, .int .u8 c.toNat] [] (fun u Bs => u = .bool (Pa.has s c) ∧ Bs = []) := by
 refine fn_body Tryz.func97 rfl rfl rfl ?_
 intro W0 R
 simp only [List.zipIdx_cons, List.zipIdx_nil, List.map_cons, List.map_nil, Nat.zero_add, Nat.reduceAdd, List.cons_append, List.nil_append]
 refine g_seq ?_
 refine g_region ?_
 refine gl_v rfl (o_assign rfl) ?_
 refine gl_nil ?_
 refine ge_then ?_
 refine g_seq ?_
 refine g_seq ?_
 refine g_region ?_
 refine gl_v rfl (o_assign rfl) ?_
 refine gl_nil ?_
 refine ge_then ?_
 refine g_block ?_
 refine g_loop (ι := Nat) (fun x => x ≤ s.length ∧ ∀ y ∈ s.take x, ¬ y = c) (fun x => [(5, I64 x), (0, S s), (1, .int .u8 c.toNat)]) (fun _ => R) (fun x => s.length - x) 0 (⟨Nat.zero_le _, fun y hy => by rw [List.take_zero] at hy; cases hy⟩) (Keep.cons rfl (Keep.cons rfl (Keep.cons rfl (Keep.nil)))) (tO) ?_
 rintro x ⟨hx, hq⟩
 replace hx : x ≤ s.length := hx
 replace hq : ∀ y ∈ s.take x, ¬ y = c := hq
 refine g_seq ?_
 refine g_seq ?_
 refine g_region ?_
 refine gl_v rfl (o_move rfl) ?_
 refine gl_v rfl (o_move rfl) ?_
 refine gl_v rfl (o_lens rfl) ?_
 refine gl_v rfl (o_lss rfl rfl) ?_
 refine gl_nil ?_
 refine ge_then ?_
 refine g_cond rfl (fun hc1 => ?_) (fun hc1 => ?_)
 ·
  replace hc1 := hs_ hc1
  obtain ⟨t, ht⟩ : ∃ t, s[x]? = some t := ⟨_, List.getElem?_eq_getElem (show x < s.length by omega)⟩
  refine g_skip ?_
  refine ge_then ?_
  refine g_seq ?_
  refine g_block ?_
  refine g_seq ?_
  refine g_region ?_
  refine gl_v rfl (o_move rfl) ?_
  refine gl_v rfl (o_move rfl) ?_
  refine gl_v rfl (o_index_string rfl rfl (ht)) ?_
  refine gl_v rfl (o_move rfl) ?_
  refine gl_v rfl (o_eql rfl rfl) ?_
  refine gl_nil ?_
  refine ge_then ?_
  refine g_cond rfl (fun hc2 => ?_) (fun hc2 => ?_)
  ·
   replace hc2 := hs_ hc2
   refine g_seq ?_
   refine g_region ?_
   refine gl_v rfl (o_assign rfl) ?_
   refine gl_nil ?_
   refine ge_then ?_
   refine g_ret ?_
   refine ge_block_ret ?_
   refine ge_then_ret ?_
   refine ge_then_ret ?_
   refine ge_block_ret ?_
   refine ge_then_ret ?_
   refine ret1 (.inl rfl) rfl rfl _ (⟨bv (has_t ht (by omega)).symm, rfl⟩) (tO)
  ·
   replace hc2 := hs_ hc2
   refine g_skip ?_
   refine ge_block ?_
   refine ge_then ?_
   refine g_region ?_
   refine gl_v rfl (o_move rfl) ?_
   refine gl_v rfl (o_addR ((x + 1 : Nat) : Int) (by rw [wr_i64 (by omega)]; omega) rfl rfl) ?_
   refine gl_v rfl (o_assign rfl) ?_
   refine gl_nil ?_
   refine ge_round (x + 1) ⟨show x + 1 ≤ s.length by omega, fun y hy => ?_⟩ (show s.length - (x + 1) < s.length - x by omega) (Keep.cons rfl (Keep.cons rfl (Keep.cons rfl (Keep.nil)))) (tO)
   obtain ⟨hi, he⟩ := List.getElem?_eq_some_iff.1 ht
   rw [List.take_succ_eq_append_getElem hi, he] at hy
   rcases List.mem_append.1 hy with hy | hy
   · exact hq y hy
   · rw [List.mem_singleton.1 hy]; intro e; rw [e] at hc2; omega
 ·
  replace hc1 := hs_ hc1
  obtain rfl : x = s.length := by omega
  rw [List.take_length] at hq
  refine g_exit ?_
  refine ge_then_exit ?_
  refine ge_then_exit ?_
  refine ge_block_exit ?_
  refine ge_then ?_
  refine g_seq ?_
  refine g_region ?_
  refine gl_v rfl (o_assign rfl) ?_
  refine gl_nil ?_
  refine ge_then ?_
  refine g_ret ?_
  refine ret1 (.inl rfl) rfl rfl _ (⟨bv (by unfold Pa.has; exact (decide_eq_false (fun h => hq c h rfl)).symm), rfl⟩) (tO)

set_option maxRecDepth 8000 in
set_option maxHeartbeats 1000000 in
theorem name_spec3 (s : By) (h : Bool) (hs : s.length ≤ 9223372036854775806) : FnS Tryz.prog 96 [S s, .bool h] [] (fun u Bs => u = .bool (nameR s h) ∧ Bs = []) := by
 refine fn_body Tryz.func96 rfl rfl rfl ?_
 intro W0 R
 simp only [List.zipIdx_cons, List.zipIdx_nil, List.map_cons, List.map_nil, Nat.zero_add, Nat.reduceAdd, List.cons_append, List.nil_append]
 refine g_seq ?_
 refine g_region ?_
 refine gl_v rfl (o_assign rfl) ?_
 refine gl_nil ?_
 refine ge_then ?_
 refine g_seq ?_
 refine g_seq ?_
 refine g_region ?_
 refine gl_v rfl (o_move rfl) ?_
 refine gl_v rfl (o_not rfl) ?_
 refine gl_nil ?_
 refine ge_then ?_
 refine g_cond rfl (fun hc1 => ?_) (fun hc1 => ?_)
 ·
  replace hc1 := hs_ hc1
  refine g_seq ?_
  refine g_region ?_
  refine gl_v rfl (o_move rfl) ?_
  refine gl_v rfl (o_eqls rfl rfl) ?_
  refine gl_v rfl (o_assign rfl) ?_
  refine gl_nil ?_
  refine ge_then ?_
  refine g_ret ?_
  refine ge_then_ret ?_
  refine ret1 (.inl rfl) rfl rfl _ (⟨bv (by unfold nameR; simp_all), rfl⟩) (tO)
 ·
  replace hc1 := hs_ hc1
  refine g_skip ?_
  refine ge_then ?_
  refine g_seq ?_
  refine g_region ?_
  refine gl_v rfl (o_move rfl) ?_
  refine gl_c rfl (o_call rfl (RName_spec (s) (by omega)) pA) ?_
  rintro _ R ⟨_, ⟨rfl, rfl⟩, rfl⟩
  try simp only [List.cons_append, List.nil_append]
  refine gl_v rfl (o_assign rfl) ?_
  refine gl_nil ?_
  refine ge_then ?_
  refine g_ret ?_
  refine ret1 (.inl rfl) rfl rfl _ (⟨bv (by unfold nameR; simp_all), rfl⟩) (tO)

set_option maxRecDepth 8000 in
set_option maxHeartbeats 1000000 in
theorem small_spec (n : Int) : FnS Tryz.prog 35 [I64 n] [] (fun u Bs => u = .bool (small n) ∧ Bs = []) := by
 refine fn_body Tryz.func35 rfl rfl rfl ?_
 intro W0 R
 simp only [List.zipIdx_cons, List.zipIdx_nil, List.map_cons, List.map_nil, Nat.zero_add, Nat.reduceAdd, List.cons_append, List.nil_append]
 refine g_seq ?_
 refine g_region ?_
 refine gl_v rfl (o_assign rfl) ?_
 refine gl_nil ?_
 refine ge_then ?_
 refine g_seq ?_
 refine g_region ?_
 refine gl_v rfl (o_move rfl) ?_
 refine gl_v rfl (o_geq rfl rfl) ?_
 refine gl_v rfl (o_move rfl) ?_
 refine gl_join (d := 8) 3 (.bool (small n)) ?_ (fun jk8 => ?_)
 rotate_left
 ·
  refine gl_g rfl rfl (fun hc1 => ?_) (fun hc1 => ?_) rfl
  ·
   have hc1' := hc1
   replace hc1' := hs_ hc1'
   refine gl_v rfl (o_move rfl) ?_
   refine gl_gT rfl rfl hc1 ?_
   refine gl_v rfl (o_leq rfl rfl) ?_
   refine gl_v rfl (o_pickT hc1 rfl rfl) ?_
   first | exact jk8 _ (KeepS.top (by repeat (first | exact KeepS.refl _ | refine KeepS.push ?_ rfl)) (jval (by first | rfl | (simp only [hc1, small, Bool.not_true, Bool.not_false, Bool.false_and, Bool.true_and, Bool.true_or, Bool.false_or]; done) | (simp [hc1, small]; done) | simp_all))) | exact gl_imp (tO) (jk8 _ (KeepS.top (by repeat (first | exact KeepS.refl _ | refine KeepS.push ?_ rfl)) (jval (by first | rfl | (simp only [hc1, small, Bool.not_true, Bool.not_false, Bool.false_and, Bool.true_and, Bool.true_or, Bool.false_or]; done) | (simp [hc1, small]; done) | simp_all))))
  ·
   have hc1' := hc1
   replace hc1' := hs_ hc1'
   simp only [putO]
   refine gl_gF rfl rfl hc1 rfl ?_
   refine gl_v rfl (o_pickF hc1 rfl rfl) ?_
   first | exact jk8 _ (KeepS.top (by repeat (first | exact KeepS.refl _ | refine KeepS.push ?_ rfl)) (jval (by first | rfl | (simp only [hc1, small, Bool.not_true, Bool.not_false, Bool.false_and, Bool.true_and, Bool.true_or, Bool.false_or]; done) | (simp [hc1, small]; done) | simp_all))) | exact gl_imp (tO) (jk8 _ (KeepS.top (by repeat (first | exact KeepS.refl _ | refine KeepS.push ?_ rfl)) (jval (by first | rfl | (simp only [hc1, small, Bool.not_true, Bool.not_false, Bool.false_and, Bool.true_and, Bool.true_or, Bool.false_or]; done) | (simp [hc1, small]; done) | simp_all))))
 refine gl_v rfl (o_assign rfl) ?_
 refine gl_nil ?_
 refine ge_then ?_
 refine g_ret ?_
 refine ret1 (.inl rfl) rfl rfl _ (⟨rfl, rfl⟩) (tO)

set_option maxRecDepth 8000 in
set_option maxHeartbeats 2000000 in
theorem Effect3_spec (e : Eff) (he : EffOk e) : FnS Tryz.prog 75 [.agg (effC e).toArray] [] (fun u Bs => u = .bool (effOK e) ∧ Bs = []) := by
 refine fn_body Tryz.func75 rfl rfl rfl ?_
 intro W0 R
 simp only [List.zipIdx_cons, List.zipIdx_nil, List.map_cons, List.map_nil, Nat.zero_add, Nat.reduceAdd, List.cons_append, List.nil_append]
 obtain ⟨he1, he2, he3⟩ := id he
 unfold ok63 at he1 he2 he3
 have hpl := (verb_len e.do').2
 refine g_seq ?_
 refine g_region ?_
 refine gl_n rfl (o_boxA rfl) ?_
 rintro _ _ ⟨b1, rfl, rfl⟩
 refine gl_v rfl (o_assign rfl) ?_
 refine gl_nil ?_
 refine ge_then ?_
 refine g_seq ?_
 refine g_region ?_
 first | refine gl_v rfl (o_fldS rfl) ?_ | refine gl_v rfl (o_fld rfl) ?_
 first | refine gl_v rfl (o_load rfl rfl) ?_ | refine gl_v rfl (o_loadS rfl rfl) ?_ | refine gl_v rfl (o_loadC rfl) ?_
 refine gl_c rfl (o_call rfl (Verb_spec e.do') pA) ?_
 rintro _ R ⟨_, ⟨rfl, rfl⟩, rfl⟩
 try simp only [List.cons_append, List.nil_append]
 refine gl_v rfl (o_move rfl) ?_
 refine gl_v rfl (o_extract rfl rfl) ?_
 refine gl_v rfl (o_extract rfl rfl) ?_
 refine gl_v rfl (o_assign rfl) ?_
 refine gl_v rfl (o_assign rfl) ?_
 refine gl_nil ?_
 refine ge_then ?_
 refine g_seq ?_
 refine g_seq ?_
 refine g_treeM [6, 7, 14, 15, 22, 23] [6, 14, 22] (.loc 0 (.loc 1 (.loc 2 (.stab 3 (.stab 4 (.loc 5 (.eff 6 (.eff 7 (.loc 8 (.loc 9 (.loc 10 (.stab 11 (.stab 12 (.loc 13 (.eff 14 (.eff 15 (.loc 16 (.loc 17 (.loc 18 (.stab 19 (.stab 20 (.loc 21 (.eff 22 (.eff 23 (.loc 24 (.loc 25 .nil)) .nil) .nil))))))) .nil) .nil))))))) .nil) .nil))))))) [cel b1 59 (effC e)] mixed (by kernel_rfl) ?_
 refine gt_v rfl .none rfl (o_move rfl) ?_
 refine gt_v rfl .none rfl (o_eqls rfl rfl) ?_
 refine gt_v rfl .none rfl (o_move rfl) ?_
 refine gt_join (d := 36) .nil (.bool (decide ((verb e.do').1 = []) || !nameR e.ref (Pa.has (verb e.do').2 114) || !nameR e.slot (Pa.has (verb e.do').2 115) || !nameR e.name (Pa.has (verb e.do').2 110))) ?_ (fun jk36 => ?_)
 rotate_left
 ·
  refine gt_split (j := 2) rfl rfl (fun hc1 => ?_) (fun hc1 => ?_)
  ·
   have hc1' := hc1
   replace hc1' := hs_ hc1'
   refine gt_skipS rfl (.no rfl rfl hc1) rfl ?_
   refine gt_skipS rfl (.no rfl rfl hc1) rfl ?_
   refine gt_skipL rfl (.no rfl rfl hc1) rfl ?_
   refine gt_skipE rfl (.no rfl rfl hc1) rfl ?_
   refine gt_skipE rfl (.no rfl rfl hc1) rfl ?_
   refine gt_skipL rfl (.no rfl rfl hc1) rfl ?_
   refine gt_v rfl .none rfl (o_pickT hc1 rfl rfl) ?_
   refine gt_v rfl .none rfl (o_move rfl) ?_
   refine gt_skipS rfl (.no rfl rfl rfl) rfl ?_
   refine gt_skipS rfl (.no rfl rfl rfl) rfl ?_
   refine gt_skipL rfl (.no rfl rfl rfl) rfl ?_
   refine gt_skipE rfl (.no rfl rfl rfl) rfl ?_
   refine gt_skipE rfl (.no rfl rfl rfl) rfl ?_
   refine gt_skipL rfl (.no rfl rfl rfl) rfl ?_
   refine gt_v rfl .none rfl (o_pickT rfl rfl rfl) ?_
   refine gt_v rfl .none rfl (o_move rfl) ?_
   refine gt_skipS rfl (.no rfl rfl rfl) rfl ?_
   refine gt_skipS rfl (.no rfl rfl rfl) rfl ?_
   refine gt_skipL rfl (.no rfl rfl rfl) rfl ?_
   refine gt_skipE rfl (.no rfl rfl rfl) rfl ?_
   refine gt_skipE rfl (.no rfl rfl rfl) rfl ?_
   refine gt_skipL rfl (.no rfl rfl rfl) rfl ?_
   refine gt_v rfl .none rfl (o_pickT rfl rfl rfl) ?_
   first | exact jk36 _ (KeepS.top (by repeat (first | exact KeepS.refl _ | refine KeepS.push ?_ rfl)) (jval (by first | rfl | (simp only [hc1, Bool.not_true, Bool.not_false, Bool.false_and, Bool.true_and, Bool.true_or, Bool.false_or]; done) | (simp [hc1, ]; done) | simp_all))) | exact gt_imp (tO) (jk36 _ (KeepS.top (by repeat (first | exact KeepS.refl _ | refine KeepS.push ?_ rfl)) (jval (by first | rfl | (simp only [hc1, Bool.not_true, Bool.not_false, Bool.false_and, Bool.true_and, Bool.true_or, Bool.false_or]; done) | (simp [hc1, ]; done) | simp_all))))
  ·
   have hc1' := hc1
   replace hc1' := hs_ hc1'
   first | refine gt_vs rfl (.yes rfl rfl hc1) rfl (o_fldS rfl) (tO) ?_ | refine gt_vs rfl (.yes rfl rfl hc1) rfl (o_fld rfl) (tO) ?_
   first | refine gt_vs rfl (.yes rfl rfl hc1) rfl (o_load rfl rfl) (tO) ?_ | refine gt_vs rfl (.yes rfl rfl hc1) rfl (o_loadS rfl rfl) (tO) ?_ | refine gt_vs rfl (.yes rfl rfl hc1) rfl (o_loadC rfl) (tO) ?_
   refine gt_v rfl (.yes rfl rfl hc1) rfl (o_move rfl) ?_
   refine gt_c rfl (.yes rfl rfl hc1) rfl (o_call rfl (Has_spec (verb e.do').2 114 (by omega)) pA) ?_
   rintro _ R ⟨_, ⟨rfl, rfl⟩, rfl⟩
   try simp only [List.cons_append, List.nil_append]
   refine ⟨(fun _ => (tO)), ?_⟩
   refine gt_c rfl (.yes rfl rfl hc1) rfl (o_call rfl (name_spec3 e.ref (Pa.has (verb e.do').2 114) (by omega)) pA) ?_
   rintro _ R ⟨_, ⟨rfl, rfl⟩, rfl⟩
   try simp only [List.cons_append, List.nil_append]
   refine ⟨(fun hG => absurd hG (by decide)), ?_⟩
   refine gt_v rfl (.yes rfl rfl hc1) rfl (o_not rfl) ?_
   refine gt_v rfl .none rfl (o_pickF hc1 rfl rfl) ?_
   refine gt_v rfl .none rfl (o_move rfl) ?_
   refine gt_split (j := 10) rfl rfl (fun hc2 => ?_) (fun hc2 => ?_)
   ·
    have hc2' := hc2
    replace hc2' := hs_ hc2'
    refine gt_skipS rfl (.no rfl rfl hc2) rfl ?_
    refine gt_skipS rfl (.no rfl rfl hc2) rfl ?_
    refine gt_skipL rfl (.no rfl rfl hc2) rfl ?_
    refine gt_skipE rfl (.no rfl rfl hc2) rfl ?_
    refine gt_skipE rfl (.no rfl rfl hc2) rfl ?_
    refine gt_skipL rfl (.no rfl rfl hc2) rfl ?_
    refine gt_v rfl .none rfl (o_pickT hc2 rfl rfl) ?_
    refine gt_v rfl .none rfl (o_move rfl) ?_
    refine gt_skipS rfl (.no rfl rfl rfl) rfl ?_
    refine gt_skipS rfl (.no rfl rfl rfl) rfl ?_
    refine gt_skipL rfl (.no rfl rfl rfl) rfl ?_
    refine gt_skipE rfl (.no rfl rfl rfl) rfl ?_
    refine gt_skipE rfl (.no rfl rfl rfl) rfl ?_
    refine gt_skipL rfl (.no rfl rfl rfl) rfl ?_
    refine gt_v rfl .none rfl (o_pickT rfl rfl rfl) ?_
    first | exact jk36 _ (KeepS.top (by repeat (first | exact KeepS.refl _ | refine KeepS.push ?_ rfl)) (jval (by first | rfl | (simp only [hc1, hc2, Bool.not_true, Bool.not_false, Bool.false_and, Bool.true_and, Bool.true_or, Bool.false_or]; done) | (simp [hc1, hc2, ]; done) | simp_all))) | exact gt_imp (tO) (jk36 _ (KeepS.top (by repeat (first | exact KeepS.refl _ | refine KeepS.push ?_ rfl)) (jval (by first | rfl | (simp only [hc1, hc2, Bool.not_true, Bool.not_false, Bool.false_and, Bool.true_and, Bool.true_or, Bool.false_or]; done) | (simp [hc1, hc2, ]; done) | simp_all))))
   ·
    have hc2' := hc2
    replace hc2' := hs_ hc2'
    first | refine gt_vs rfl (.yes rfl rfl hc2) rfl (o_fldS rfl) (tO) ?_ | refine gt_vs rfl (.yes rfl rfl hc2) rfl (o_fld rfl) (tO) ?_
    first | refine gt_vs rfl (.yes rfl rfl hc2) rfl (o_load rfl rfl) (tO) ?_ | refine gt_vs rfl (.yes rfl rfl hc2) rfl (o_loadS rfl rfl) (tO) ?_ | refine gt_vs rfl (.yes rfl rfl hc2) rfl (o_loadC rfl) (tO) ?_
    refine gt_v rfl (.yes rfl rfl hc2) rfl (o_move rfl) ?_
    refine gt_c rfl (.yes rfl rfl hc2) rfl (o_call rfl (Has_spec (verb e.do').2 115 (by omega)) pA) ?_
    rintro _ R ⟨_, ⟨rfl, rfl⟩, rfl⟩
    try simp only [List.cons_append, List.nil_append]
    refine ⟨(fun _ => (tO)), ?_⟩
    refine gt_c rfl (.yes rfl rfl hc2) rfl (o_call rfl (name_spec3 e.slot (Pa.has (verb e.do').2 115) (by omega)) pA) ?_
    rintro _ R ⟨_, ⟨rfl, rfl⟩, rfl⟩
    try simp only [List.cons_append, List.nil_append]
    refine ⟨(fun hG => absurd hG (by decide)), ?_⟩
    refine gt_v rfl (.yes rfl rfl hc2) rfl (o_not rfl) ?_
    refine gt_v rfl .none rfl (o_pickF hc2 rfl rfl) ?_
    refine gt_v rfl .none rfl (o_move rfl) ?_
    refine gt_split (j := 18) rfl rfl (fun hc3 => ?_) (fun hc3 => ?_)
    ·
     have hc3' := hc3
     replace hc3' := hs_ hc3'
     refine gt_skipS rfl (.no rfl rfl hc3) rfl ?_
     refine gt_skipS rfl (.no rfl rfl hc3) rfl ?_
     refine gt_skipL rfl (.no rfl rfl hc3) rfl ?_
     refine gt_skipE rfl (.no rfl rfl hc3) rfl ?_
     refine gt_skipE rfl (.no rfl rfl hc3) rfl ?_
     refine gt_skipL rfl (.no rfl rfl hc3) rfl ?_
     refine gt_v rfl .none rfl (o_pickT hc3 rfl rfl) ?_
     first | exact jk36 _ (KeepS.top (by repeat (first | exact KeepS.refl _ | refine KeepS.push ?_ rfl)) (jval (by first | rfl | (simp only [hc1, hc2, hc3, Bool.not_true, Bool.not_false, Bool.false_and, Bool.true_and, Bool.true_or, Bool.false_or]; done) | (simp [hc1, hc2, hc3, ]; done) | simp_all))) | exact gt_imp (tO) (jk36 _ (KeepS.top (by repeat (first | exact KeepS.refl _ | refine KeepS.push ?_ rfl)) (jval (by first | rfl | (simp only [hc1, hc2, hc3, Bool.not_true, Bool.not_false, Bool.false_and, Bool.true_and, Bool.true_or, Bool.false_or]; done) | (simp [hc1, hc2, hc3, ]; done) | simp_all))))
    ·
     have hc3' := hc3
     replace hc3' := hs_ hc3'
     first | refine gt_vs rfl (.yes rfl rfl hc3) rfl (o_fldS rfl) (tO) ?_ | refine gt_vs rfl (.yes rfl rfl hc3) rfl (o_fld rfl) (tO) ?_
     first | refine gt_vs rfl (.yes rfl rfl hc3) rfl (o_load rfl rfl) (tO) ?_ | refine gt_vs rfl (.yes rfl rfl hc3) rfl (o_loadS rfl rfl) (tO) ?_ | refine gt_vs rfl (.yes rfl rfl hc3) rfl (o_loadC rfl) (tO) ?_
     refine gt_v rfl (.yes rfl rfl hc3) rfl (o_move rfl) ?_
     refine gt_c rfl (.yes rfl rfl hc3) rfl (o_call rfl (Has_spec (verb e.do').2 110 (by omega)) pA) ?_
     rintro _ R ⟨_, ⟨rfl, rfl⟩, rfl⟩
     try simp only [List.cons_append, List.nil_append]
     refine ⟨(fun _ => (tO)), ?_⟩
     refine gt_c rfl (.yes rfl rfl hc3) rfl (o_call rfl (name_spec3 e.name (Pa.has (verb e.do').2 110) (by omega)) pA) ?_
     rintro _ R ⟨_, ⟨rfl, rfl⟩, rfl⟩
     try simp only [List.cons_append, List.nil_append]
     refine ⟨(fun hG => absurd hG (by decide)), ?_⟩
     refine gt_v rfl (.yes rfl rfl hc3) rfl (o_not rfl) ?_
     refine gt_v rfl .none rfl (o_pickF hc3 rfl rfl) ?_
     first | exact jk36 _ (KeepS.top (by repeat (first | exact KeepS.refl _ | refine KeepS.push ?_ rfl)) (jval (by first | rfl | (simp only [hc1, hc2, hc3, Bool.not_true, Bool.not_false, Bool.false_and, Bool.true_and, Bool.true_or, Bool.false_or]; done) | (simp [hc1, hc2, hc3, ]; done) | simp_all))) | exact gt_imp (tO) (jk36 _ (KeepS.top (by repeat (first | exact KeepS.refl _ | refine KeepS.push ?_ rfl)) (jval (by first | rfl | (simp only [hc1, hc2, hc3, Bool.not_true, Bool.not_false, Bool.false_and, Bool.true_and, Bool.true_or, Bool.false_or]; done) | (simp [hc1, hc2, hc3, ]; done) | simp_all))))
 refine gt_keep (Keep.cons (t := 36) rfl (Keep.cons (t := 10) rfl (Keep.cons (t := 9) rfl (Keep.cons (t := 8) rfl (Keep.cons (t := 7) rfl (Keep.cons (t := 6) rfl (Keep.cons (t := 5) rfl (Keep.cons (t := 4) rfl (Keep.cons (t := 3) rfl (Keep.cons (t := 2) rfl (Keep.cons (t := 1) rfl (Keep.cons (t := 0) rfl (Keep.nil))))))))))))) ?_
 refine gt_nil ?_
 refine ge_then ?_
 refine g_cond rfl (fun hc4 => ?_) (fun hc4 => ?_)
 ·
  replace hc4 := hs_ hc4
  have hA := hc4
  refine g_seq ?_
  refine g_region ?_
  refine gl_v rfl (o_assign rfl) ?_
  refine gl_nil ?_
  refine ge_then ?_
  refine g_ret ?_
  refine ge_then_ret ?_
  refine ret1 (.inl rfl) rfl rfl _ (⟨bv (eff_A hA).symm, rfl⟩) (tO)
 ·
  replace hc4 := hs_ hc4
  have hA := hc4
  refine g_skip ?_
  refine ge_then ?_
  refine g_seq ?_
  refine g_seq ?_
  refine g_region ?_
  refine gl_v rfl (o_move rfl) ?_
  refine gl_c rfl (o_call rfl (Has_spec (verb e.do').2 100 (by omega)) pA) ?_
  rintro _ R ⟨_, ⟨rfl, rfl⟩, rfl⟩
  try simp only [List.cons_append, List.nil_append]
  refine gl_v rfl (o_move rfl) ?_
  refine gl_join (d := 54) 15 (.bool ((Pa.has (verb e.do').2 100 && !small e.delay) || (!Pa.has (verb e.do').2 100 && !decide (e.delay = 0)))) ?_ (fun jk54 => ?_)
  rotate_left
  ·
   refine gl_g rfl rfl (fun hc5 => ?_) (fun hc5 => ?_) rfl
   ·
    have hc5' := hc5
    replace hc5' := hs_ hc5'
    first | refine gl_v rfl (o_fldS rfl) ?_ | refine gl_v rfl (o_fld rfl) ?_
    refine gl_gT rfl rfl hc5 ?_
    first | refine gl_v rfl (o_load rfl rfl) ?_ | refine gl_v rfl (o_loadS rfl rfl) ?_ | refine gl_v rfl (o_loadC rfl) ?_
    refine gl_gT rfl rfl hc5 ?_
    refine gl_c rfl (o_call rfl (small_spec e.delay) pA) ?_
    rintro _ R ⟨_, ⟨rfl, rfl⟩, rfl⟩
    try simp only [List.cons_append, List.nil_append]
    refine gl_gT rfl rfl hc5 ?_
    refine gl_v rfl (o_not rfl) ?_
    refine gl_v rfl (o_pickT hc5 rfl rfl) ?_
    refine gl_v rfl (o_move rfl) ?_
    refine gl_g rfl rfl (fun hc6 => ?_) (fun hc6 => ?_) rfl
    ·
     have hc6' := hc6
     replace hc6' := hs_ hc6'
     refine gl_v rfl (o_move rfl) ?_
     refine gl_gT rfl rfl hc6 ?_
     refine gl_c rfl (o_call rfl (Has_spec (verb e.do').2 100 (by omega)) pA) ?_
     rintro _ R ⟨_, ⟨rfl, rfl⟩, rfl⟩
     try simp only [List.cons_append, List.nil_append]
     refine gl_gT rfl rfl hc6 ?_
     refine gl_v rfl (o_not rfl) ?_
     refine gl_gT rfl rfl hc6 ?_
     refine gl_v rfl (o_move rfl) ?_
     refine gl_g rfl rfl (fun hc7 => ?_) (fun hc7 => ?_) rfl
     ·
      have hc7' := hc7
      replace hc7' := hs_ hc7'
      first | refine gl_v rfl (o_fldS rfl) ?_ | refine gl_v rfl (o_fld rfl) ?_
      refine gl_gT rfl rfl hc7 ?_
      first | refine gl_v rfl (o_load rfl rfl) ?_ | refine gl_v rfl (o_loadS rfl rfl) ?_ | refine gl_v rfl (o_loadC rfl) ?_
      refine gl_gT rfl rfl hc7 ?_
      refine gl_v rfl (o_neq rfl rfl) ?_
      refine gl_gT rfl rfl hc6 ?_
      refine gl_v rfl (o_pickT hc7 rfl rfl) ?_
      refine gl_v rfl (o_pickF hc6 rfl rfl) ?_
      first | exact jk54 _ (KeepS.top (by repeat (first | exact KeepS.refl _ | refine KeepS.push ?_ rfl)) (jval (by first | rfl | (simp only [hc5, hc6, hc7, Bool.not_true, Bool.not_false, Bool.false_and, Bool.true_and, Bool.true_or, Bool.false_or]; done) | (simp [hc5, hc6, hc7, ]; done) | simp_all))) | exact gl_imp (tO) (jk54 _ (KeepS.top (by repeat (first | exact KeepS.refl _ | refine KeepS.push ?_ rfl)) (jval (by first | rfl | (simp only [hc5, hc6, hc7, Bool.not_true, Bool.not_false, Bool.false_and, Bool.true_and, Bool.true_or, Bool.false_or]; done) | (simp [hc5, hc6, hc7, ]; done) | simp_all))))
     ·
      have hc7' := hc7
      replace hc7' := hs_ hc7'
      simp only [putO]
      refine gl_gF rfl rfl hc7 rfl ?_
      refine gl_gF rfl rfl hc7 rfl ?_
      refine gl_gT rfl rfl hc6 ?_
      refine gl_v rfl (o_pickF hc7 rfl rfl) ?_
      refine gl_v rfl (o_pickF hc6 rfl rfl) ?_
      first | exact jk54 _ (KeepS.top (by repeat (first | exact KeepS.refl _ | refine KeepS.push ?_ rfl)) (jval (by first | rfl | (simp only [hc5, hc6, hc7, Bool.not_true, Bool.not_false, Bool.false_and, Bool.true_and, Bool.true_or, Bool.false_or]; done) | (simp [hc5, hc6, hc7, ]; done) | simp_all))) | exact gl_imp (tO) (jk54 _ (KeepS.top (by repeat (first | exact KeepS.refl _ | refine KeepS.push ?_ rfl)) (jval (by first | rfl | (simp only [hc5, hc6, hc7, Bool.not_true, Bool.not_false, Bool.false_and, Bool.true_and, Bool.true_or, Bool.false_or]; done) | (simp [hc5, hc6, hc7, ]; done) | simp_all))))
    ·
     have hc6' := hc6
     replace hc6' := hs_ hc6'
     simp only [putO]
     refine gl_gF rfl rfl hc6 rfl ?_
     refine gl_gF rfl rfl hc6 rfl ?_
     refine gl_gF rfl rfl hc6 rfl ?_
     refine gl_gU rfl rfl rfl ?_
     refine gl_gU rfl rfl rfl ?_
     refine gl_gU rfl rfl rfl ?_
     refine gl_gF rfl rfl hc6 rfl ?_
     refine gl_v rfl (o_pickT hc6 rfl rfl) ?_
     first | exact jk54 _ (KeepS.top (by repeat (first | exact KeepS.refl _ | refine KeepS.push ?_ rfl)) (jval (by first | rfl | (simp only [hc5, hc6, Bool.not_true, Bool.not_false, Bool.false_and, Bool.true_and, Bool.true_or, Bool.false_or]; done) | (simp [hc5, hc6, ]; done) | simp_all))) | exact gl_imp (tO) (jk54 _ (KeepS.top (by repeat (first | exact KeepS.refl _ | refine KeepS.push ?_ rfl)) (jval (by first | rfl | (simp only [hc5, hc6, Bool.not_true, Bool.not_false, Bool.false_and, Bool.true_and, Bool.true_or, Bool.false_or]; done) | (simp [hc5, hc6, ]; done) | simp_all))))
   ·
    have hc5' := hc5
    replace hc5' := hs_ hc5'
    simp only [putO]
    refine gl_gF rfl rfl hc5 rfl ?_
    refine gl_gF rfl rfl hc5 rfl ?_
    refine gl_gF rfl rfl hc5 rfl ?_
    refine gl_v rfl (o_pickF hc5 rfl rfl) ?_
    refine gl_v rfl (o_move rfl) ?_
    refine gl_gT rfl rfl rfl ?_
    refine gl_v rfl (o_move rfl) ?_
    refine gl_gT rfl rfl rfl ?_
    refine gl_c rfl (o_call rfl (Has_spec (verb e.do').2 100 (by omega)) pA) ?_
    rintro _ R ⟨_, ⟨rfl, rfl⟩, rfl⟩
    try simp only [List.cons_append, List.nil_append]
    refine gl_gT rfl rfl rfl ?_
    refine gl_v rfl (o_not rfl) ?_
    refine gl_gT rfl rfl rfl ?_
    refine gl_v rfl (o_move rfl) ?_
    refine gl_g rfl rfl (fun hc8 => ?_) (fun hc8 => ?_) rfl
    ·
     have hc8' := hc8
     replace hc8' := hs_ hc8'
     first | refine gl_v rfl (o_fldS rfl) ?_ | refine gl_v rfl (o_fld rfl) ?_
     refine gl_gT rfl rfl hc8 ?_
     first | refine gl_v rfl (o_load rfl rfl) ?_ | refine gl_v rfl (o_loadS rfl rfl) ?_ | refine gl_v rfl (o_loadC rfl) ?_
     refine gl_gT rfl rfl hc8 ?_
     refine gl_v rfl (o_neq rfl rfl) ?_
     refine gl_gT rfl rfl rfl ?_
     refine gl_v rfl (o_pickT hc8 rfl rfl) ?_
     refine gl_v rfl (o_pickF rfl rfl rfl) ?_
     first | exact jk54 _ (KeepS.top (by repeat (first | exact KeepS.refl _ | refine KeepS.push ?_ rfl)) (jval (by first | rfl | (simp only [hc5, hc8, Bool.not_true, Bool.not_false, Bool.false_and, Bool.true_and, Bool.true_or, Bool.false_or]; done) | (simp [hc5, hc8, ]; done) | simp_all))) | exact gl_imp (tO) (jk54 _ (KeepS.top (by repeat (first | exact KeepS.refl _ | refine KeepS.push ?_ rfl)) (jval (by first | rfl | (simp only [hc5, hc8, Bool.not_true, Bool.not_false, Bool.false_and, Bool.true_and, Bool.true_or, Bool.false_or]; done) | (simp [hc5, hc8, ]; done) | simp_all))))
    ·
     have hc8' := hc8
     replace hc8' := hs_ hc8'
     simp only [putO]
     refine gl_gF rfl rfl hc8 rfl ?_
     refine gl_gF rfl rfl hc8 rfl ?_
     refine gl_gT rfl rfl rfl ?_
     refine gl_v rfl (o_pickF hc8 rfl rfl) ?_
     refine gl_v rfl (o_pickF rfl rfl rfl) ?_
     first | exact jk54 _ (KeepS.top (by repeat (first | exact KeepS.refl _ | refine KeepS.push ?_ rfl)) (jval (by first | rfl | (simp only [hc5, hc8, Bool.not_true, Bool.not_false, Bool.false_and, Bool.true_and, Bool.true_or, Bool.false_or]; done) | (simp [hc5, hc8, ]; done) | simp_all))) | exact gl_imp (tO) (jk54 _ (KeepS.top (by repeat (first | exact KeepS.refl _ | refine KeepS.push ?_ rfl)) (jval (by first | rfl | (simp only [hc5, hc8, Bool.not_true, Bool.not_false, Bool.false_and, Bool.true_and, Bool.true_or, Bool.false_or]; done) | (simp [hc5, hc8, ]; done) | simp_all))))
  refine gl_nil ?_
  refine ge_then ?_
  refine g_cond rfl (fun hc9 => ?_) (fun hc9 => ?_)
  ·
   replace hc9 := hs_ hc9
   have hB := hc9
   refine g_seq ?_
   refine g_region ?_
   refine gl_v rfl (o_assign rfl) ?_
   refine gl_nil ?_
   refine ge_then ?_
   refine g_ret ?_
   refine ge_then_ret ?_
   refine ret1 (.inl rfl) rfl rfl _ (⟨bv (eff_B hB).symm, rfl⟩) (tO)
  ·
   replace hc9 := hs_ hc9
   have hB := hc9
   refine g_skip ?_
   refine ge_then ?_
   refine g_seq ?_
   refine g_seq ?_
   refine g_region ?_
   refine gl_v rfl (o_move rfl) ?_
   refine gl_c rfl (o_call rfl (Has_spec (verb e.do').2 118 (by omega)) pA) ?_
   rintro _ R ⟨_, ⟨rfl, rfl⟩, rfl⟩
   try simp only [List.cons_append, List.nil_append]
   refine gl_v rfl (o_not rfl) ?_
   refine gl_v rfl (o_move rfl) ?_
   refine gl_join (d := 62) 4 (.bool (!Pa.has (verb e.do').2 118 || !decide (e.value = 2))) ?_ (fun jk62 => ?_)
   rotate_left
   ·
    refine gl_g rfl rfl (fun hc10 => ?_) (fun hc10 => ?_) rfl
    ·
     have hc10' := hc10
     replace hc10' := hs_ hc10'
     first | refine gl_v rfl (o_fldS rfl) ?_ | refine gl_v rfl (o_fld rfl) ?_
     refine gl_gT rfl rfl hc10 ?_
     first | refine gl_v rfl (o_load rfl rfl) ?_ | refine gl_v rfl (o_loadS rfl rfl) ?_ | refine gl_v rfl (o_loadC rfl) ?_
     refine gl_gT rfl rfl hc10 ?_
     refine gl_v rfl (o_neq rfl rfl) ?_
     refine gl_v rfl (o_pickF hc10 rfl rfl) ?_
     first | exact jk62 _ (KeepS.top (by repeat (first | exact KeepS.refl _ | refine KeepS.push ?_ rfl)) (jval (by first | rfl | (simp only [hc10, Bool.not_true, Bool.not_false, Bool.false_and, Bool.true_and, Bool.true_or, Bool.false_or]; done) | (simp [hc10, ]; done) | simp_all))) | exact gl_imp (tO) (jk62 _ (KeepS.top (by repeat (first | exact KeepS.refl _ | refine KeepS.push ?_ rfl)) (jval (by first | rfl | (simp only [hc10, Bool.not_true, Bool.not_false, Bool.false_and, Bool.true_and, Bool.true_or, Bool.false_or]; done) | (simp [hc10, ]; done) | simp_all))))
    ·
     have hc10' := hc10
     replace hc10' := hs_ hc10'
     simp only [putO]
     refine gl_gF rfl rfl hc10 rfl ?_
     refine gl_gF rfl rfl hc10 rfl ?_
     refine gl_v rfl (o_pickT hc10 rfl rfl) ?_
     first | exact jk62 _ (KeepS.top (by repeat (first | exact KeepS.refl _ | refine KeepS.push ?_ rfl)) (jval (by first | rfl | (simp only [hc10, Bool.not_true, Bool.not_false, Bool.false_and, Bool.true_and, Bool.true_or, Bool.false_or]; done) | (simp [hc10, ]; done) | simp_all))) | exact gl_imp (tO) (jk62 _ (KeepS.top (by repeat (first | exact KeepS.refl _ | refine KeepS.push ?_ rfl)) (jval (by first | rfl | (simp only [hc10, Bool.not_true, Bool.not_false, Bool.false_and, Bool.true_and, Bool.true_or, Bool.false_or]; done) | (simp [hc10, ]; done) | simp_all))))
   refine gl_nil ?_
   refine ge_then ?_
   refine g_cond rfl (fun hc11 => ?_) (fun hc11 => ?_)
   ·
    replace hc11 := hs_ hc11
    have hC := hc11
    refine g_seq ?_
    refine g_region ?_
    first | refine gl_v rfl (o_fldS rfl) ?_ | refine gl_v rfl (o_fld rfl) ?_
    first | refine gl_v rfl (o_load rfl rfl) ?_ | refine gl_v rfl (o_loadS rfl rfl) ?_ | refine gl_v rfl (o_loadC rfl) ?_
    refine gl_v rfl (o_eql rfl rfl) ?_
    refine gl_v rfl (o_move rfl) ?_
    refine gl_join (d := 79) 13 (.bool (decide (e.n = 0) && (decide (e.value = 0) || (decide (e.value = 1) && Pa.has (verb e.do').2 118)))) ?_ (fun jk79 => ?_)
    rotate_left
    ·
     refine gl_g rfl rfl (fun hc12 => ?_) (fun hc12 => ?_) rfl
     ·
      have hc12' := hc12
      replace hc12' := hs_ hc12'
      first | refine gl_v rfl (o_fldS rfl) ?_ | refine gl_v rfl (o_fld rfl) ?_
      refine gl_gT rfl rfl hc12 ?_
      first | refine gl_v rfl (o_load rfl rfl) ?_ | refine gl_v rfl (o_loadS rfl rfl) ?_ | refine gl_v rfl (o_loadC rfl) ?_
      refine gl_gT rfl rfl hc12 ?_
      refine gl_v rfl (o_eql rfl rfl) ?_
      refine gl_gT rfl rfl hc12 ?_
      refine gl_v rfl (o_move rfl) ?_
      refine gl_g rfl rfl (fun hc13 => ?_) (fun hc13 => ?_) rfl
      ·
       have hc13' := hc13
       replace hc13' := hs_ hc13'
       first | refine gl_v rfl (o_fldS rfl) ?_ | refine gl_v rfl (o_fld rfl) ?_
       refine gl_gT rfl rfl hc13 ?_
       first | refine gl_v rfl (o_load rfl rfl) ?_ | refine gl_v rfl (o_loadS rfl rfl) ?_ | refine gl_v rfl (o_loadC rfl) ?_
       refine gl_gT rfl rfl hc13 ?_
       refine gl_v rfl (o_eql rfl rfl) ?_
       refine gl_gT rfl rfl hc13 ?_
       refine gl_v rfl (o_move rfl) ?_
       refine gl_g rfl rfl (fun hc14 => ?_) (fun hc14 => ?_) rfl
       ·
        have hc14' := hc14
        replace hc14' := hs_ hc14'
        refine gl_v rfl (o_move rfl) ?_
        refine gl_gT rfl rfl hc14 ?_
        refine gl_c rfl (o_call rfl (Has_spec (verb e.do').2 118 (by omega)) pA) ?_
        rintro _ R ⟨_, ⟨rfl, rfl⟩, rfl⟩
        try simp only [List.cons_append, List.nil_append]
        refine gl_gT rfl rfl hc13 ?_
        refine gl_v rfl (o_pickT hc14 rfl rfl) ?_
        refine gl_gT rfl rfl hc12 ?_
        refine gl_v rfl (o_pickF hc13 rfl rfl) ?_
        refine gl_v rfl (o_pickT hc12 rfl rfl) ?_
        first | exact jk79 _ (KeepS.top (by repeat (first | exact KeepS.refl _ | refine KeepS.push ?_ rfl)) (jval (by first | rfl | (simp only [hc12, hc13, hc14, Bool.not_true, Bool.not_false, Bool.false_and, Bool.true_and, Bool.true_or, Bool.false_or]; done) | (simp [hc12, hc13, hc14, ]; done) | simp_all))) | exact gl_imp (tO) (jk79 _ (KeepS.top (by repeat (first | exact KeepS.refl _ | refine KeepS.push ?_ rfl)) (jval (by first | rfl | (simp only [hc12, hc13, hc14, Bool.not_true, Bool.not_false, Bool.false_and, Bool.true_and, Bool.true_or, Bool.false_or]; done) | (simp [hc12, hc13, hc14, ]; done) | simp_all))))
       ·
        have hc14' := hc14
        replace hc14' := hs_ hc14'
        simp only [putO]
        refine gl_gF rfl rfl hc14 rfl ?_
        refine gl_gT rfl rfl hc13 ?_
        refine gl_v rfl (o_pickF hc14 rfl rfl) ?_
        refine gl_gT rfl rfl hc12 ?_
        refine gl_v rfl (o_pickF hc13 rfl rfl) ?_
        refine gl_v rfl (o_pickT hc12 rfl rfl) ?_
        first | exact jk79 _ (KeepS.top (by repeat (first | exact KeepS.refl _ | refine KeepS.push ?_ rfl)) (jval (by first | rfl | (simp only [hc12, hc13, hc14, Bool.not_true, Bool.not_false, Bool.false_and, Bool.true_and, Bool.true_or, Bool.false_or]; done) | (simp [hc12, hc13, hc14, ]; done) | simp_all))) | exact gl_imp (tO) (jk79 _ (KeepS.top (by repeat (first | exact KeepS.refl _ | refine KeepS.push ?_ rfl)) (jval (by first | rfl | (simp only [hc12, hc13, hc14, Bool.not_true, Bool.not_false, Bool.false_and, Bool.true_and, Bool.true_or, Bool.false_or]; done) | (simp [hc12, hc13, hc14, ]; done) | simp_all))))
      ·
       have hc13' := hc13
       replace hc13' := hs_ hc13'
       simp only [putO]
       refine gl_gF rfl rfl hc13 rfl ?_
       refine gl_gF rfl rfl hc13 rfl ?_
       refine gl_gF rfl rfl hc13 rfl ?_
       refine gl_gU rfl rfl rfl ?_
       refine gl_gU rfl rfl rfl ?_
       refine gl_gF rfl rfl hc13 rfl ?_
       refine gl_gT rfl rfl hc12 ?_
       refine gl_v rfl (o_pickT hc13 rfl rfl) ?_
       refine gl_v rfl (o_pickT hc12 rfl rfl) ?_
       first | exact jk79 _ (KeepS.top (by repeat (first | exact KeepS.refl _ | refine KeepS.push ?_ rfl)) (jval (by first | rfl | (simp only [hc12, hc13, Bool.not_true, Bool.not_false, Bool.false_and, Bool.true_and, Bool.true_or, Bool.false_or]; done) | (simp [hc12, hc13, ]; done) | simp_all))) | exact gl_imp (tO) (jk79 _ (KeepS.top (by repeat (first | exact KeepS.refl _ | refine KeepS.push ?_ rfl)) (jval (by first | rfl | (simp only [hc12, hc13, Bool.not_true, Bool.not_false, Bool.false_and, Bool.true_and, Bool.true_or, Bool.false_or]; done) | (simp [hc12, hc13, ]; done) | simp_all))))
     ·
      have hc12' := hc12
      replace hc12' := hs_ hc12'
      simp only [putO]
      refine gl_gF rfl rfl hc12 rfl ?_
      refine gl_gF rfl rfl hc12 rfl ?_
      refine gl_gF rfl rfl hc12 rfl ?_
      refine gl_gU rfl rfl rfl ?_
      refine gl_gU rfl rfl rfl ?_
      refine gl_gU rfl rfl rfl ?_
      refine gl_gU rfl rfl rfl ?_
      refine gl_gU rfl rfl rfl ?_
      refine gl_gU rfl rfl rfl ?_
      refine gl_gU rfl rfl rfl ?_
      refine gl_gF rfl rfl hc12 rfl ?_
      refine gl_v rfl (o_pickF hc12 rfl rfl) ?_
      first | exact jk79 _ (KeepS.top (by repeat (first | exact KeepS.refl _ | refine KeepS.push ?_ rfl)) (jval (by first | rfl | (simp only [hc12, Bool.not_true, Bool.not_false, Bool.false_and, Bool.true_and, Bool.true_or, Bool.false_or]; done) | (simp [hc12, ]; done) | simp_all))) | exact gl_imp (tO) (jk79 _ (KeepS.top (by repeat (first | exact KeepS.refl _ | refine KeepS.push ?_ rfl)) (jval (by first | rfl | (simp only [hc12, Bool.not_true, Bool.not_false, Bool.false_and, Bool.true_and, Bool.true_or, Bool.false_or]; done) | (simp [hc12, ]; done) | simp_all))))
    refine gl_v rfl (o_assign rfl) ?_
    refine gl_nil ?_
    refine ge_then ?_
    refine g_ret ?_
    refine ge_then_ret ?_
    refine ret1 (.inl rfl) rfl rfl _ (⟨bv (eff_C hA hB hC).symm, rfl⟩) (tO)
   ·
    replace hc11 := hs_ hc11
    have hC := hc11
    refine g_skip ?_
    refine ge_then ?_
    refine g_seq ?_
    refine g_region ?_
    first | refine gl_v rfl (o_fldS rfl) ?_ | refine gl_v rfl (o_fld rfl) ?_
    first | refine gl_v rfl (o_load rfl rfl) ?_ | refine gl_v rfl (o_loadS rfl rfl) ?_ | refine gl_v rfl (o_loadC rfl) ?_
    refine gl_c rfl (o_call rfl (small_spec e.n) pA) ?_
    rintro _ R ⟨_, ⟨rfl, rfl⟩, rfl⟩
    try simp only [List.cons_append, List.nil_append]
    refine gl_v rfl (o_assign rfl) ?_
    refine gl_nil ?_
    refine ge_then ?_
    refine g_ret ?_
    refine ret1 (.inl rfl) rfl rfl _ (⟨bv (eff_D hA hB hC).symm, rfl⟩) (tO)

theorem fact_of {A : Assn} {As R : List Assn} {p : Prop} (s : Sel A As R) (f : ∀ h, A h → p) : ∀ h, Sat As h → p := fun h x => by
  obtain ⟨h1, h2, d, e, a, _⟩ := s.to x; exact f _ a
theorem sta_no1 {s : Sta} (h : isName s.name = false) : staOK s = false := by unfold staOK; rw [h]; rfl
theorem sta_no2 {s : Sta} {r : Row} (hr : r ∈ s.rows) (h : rowOK r = false) : staOK s = false := by
  unfold staOK; rw [List.all_eq_false.2 ⟨r, hr, by rw [h]; decide⟩, Bool.and_false]
theorem sta_yes {s : Sta} (h : isName s.name = true) (h2 : s.rows.all rowOK = true) : staOK s = true := by unfold staOK; rw [h, h2]; rfl
theorem row_no1 {r : Row} (h : ((((decide (r.tag = []) && r.only) || (!decide (r.tag = []) && !isName r.tag)) || (r.only && !small r.n)) || (!r.only && !decide (r.n = 0))) = true) : rowOK r = false := by rw [rowOK_eq, h]; rfl
theorem row_no2 {r : Row} {e : Eff} (he : e ∈ r.effs) (h : effOK e = false) : rowOK r = false := by rw [rowOK_eq, List.all_eq_false.2 ⟨e, he, by rw [h]; decide⟩, Bool.and_false]
theorem row_yes {r : Row} (h : ((((decide (r.tag = []) && r.only) || (!decide (r.tag = []) && !isName r.tag)) || (r.only && !small r.n)) || (!r.only && !decide (r.n = 0))) = false) (h2 : r.effs.all effOK = true) : rowOK r = true := by rw [rowOK_eq, h, h2]; rfl
theorem all_tk {α : Type} {q : α → Bool} {L : List α} {x : Nat} {t : α} (h : L[x]? = some t) (h1 : (L.take x).all q = true) (h2 : q t = true) : (L.take (x + 1)).all q = true := by
  obtain ⟨hj, e⟩ := List.getElem?_eq_some_iff.1 h
  rw [List.take_succ_eq_append_getElem hj, e, List.all_append, h1]; simp [h2]

set_option maxRecDepth 8000 in
set_option maxHeartbeats 3000000 in
theorem state3_spec (M : Assn) (s : Sta) (hM : ∀ h, M h → StaOk h s) : FnS Tryz.prog 37 [.agg (staC s).toArray] [M] (fun u Bs => u = .bool (staOK s) ∧ Bs = [M]) := by
 refine fn_body Tryz.func37 rfl rfl rfl ?_
 intro W0 R
 simp only [List.zipIdx_cons, List.zipIdx_nil, List.map_cons, List.map_nil, Nat.zero_add, Nat.reduceAdd, List.cons_append, List.nil_append]
 haveI iR : RdA (.slice s.ra s.rows.length s.rc) M s.rows.length (s.rows.flatMap rowC) := ⟨fun a => (hM _ a).rd.1⟩
 refine g_fact (p := (s.name.length ≤ 140737488351232 ∧ s.rows.length ≤ 140737488351232) ∧ ∀ r ∈ s.rows, (r.tag.length ≤ 140737488351232 ∧ r.effs.length ≤ 140737488351232) ∧ ∀ e ∈ r.effs, EffOk e) (fact_of (A := M) sE fun h a => ?_) ?_
 · have hk := hM _ a
   have h1 := hk.name; have h2 := hk.len; unfold ok63 at h1 h2
   refine ⟨⟨h1, by omega⟩, fun r hr => ?_⟩
   have h3 := (hk.rows r hr).tag; have h4 := (hk.rows r hr).len; unfold ok63 at h3 h4
   exact ⟨⟨h3, by omega⟩, (hk.rows r hr).effs⟩
 rintro ⟨⟨hn1, hn2⟩, hrs⟩
 refine g_seq ?_
 refine g_region ?_
 refine gl_n rfl (o_boxA rfl) ?_
 rintro _ _ ⟨b1, rfl, rfl⟩
 refine gl_v rfl (o_assign rfl) ?_
 refine gl_nil ?_
 refine ge_then ?_
 refine g_seq ?_
 refine g_seq ?_
 refine g_region ?_
 first | refine gl_v rfl (o_fldS rfl) ?_ | refine gl_v rfl (o_fld rfl) ?_
 first | refine gl_v rfl (o_load rfl rfl) ?_ | refine gl_v rfl (o_loadS rfl rfl) ?_ | refine gl_v rfl (o_loadC rfl) ?_
 refine gl_c rfl (o_call rfl (RName_spec (s.name) (by omega)) pA) ?_
 rintro _ R ⟨_, ⟨rfl, rfl⟩, rfl⟩
 try simp only [List.cons_append, List.nil_append]
 refine gl_v rfl (o_not rfl) ?_
 refine gl_nil ?_
 refine ge_then ?_
 refine g_cond rfl (fun hc1 => ?_) (fun hc1 => ?_)
 ·
  replace hc1 := hs_ hc1
  have hnm : isName s.name = false := by simpa using hc1
  refine g_seq ?_
  refine g_region ?_
  refine gl_v rfl (o_assign rfl) ?_
  refine gl_nil ?_
  refine ge_then ?_
  refine g_ret ?_
  refine ge_then_ret ?_
  refine ret1 (.inl rfl) rfl rfl _ (⟨bv (sta_no1 hnm).symm, rfl⟩) (tO)
 ·
  replace hc1 := hs_ hc1
  have hnm : isName s.name = true := by simpa using hc1
  refine g_skip ?_
  refine ge_then ?_
  refine g_seq ?_
  refine g_seq ?_
  refine g_region ?_
  refine gl_v rfl (o_assign rfl) ?_
  refine gl_nil ?_
  refine ge_then ?_
  refine g_block ?_
  refine g_loop (ι := Nat) (fun x_ => x_ ≤ s.rows.length ∧ (s.rows.take x_).all rowOK = true) (fun x_ => [(3, I64 x_), (1, ptr b1 0)]) (fun _ => cel b1 54 (staC s) :: M :: R) (fun x_ => s.rows.length - x_) 0 (⟨Nat.zero_le _, rfl⟩) (Keep.cons rfl (Keep.cons rfl (Keep.nil))) (tO) ?_
  rintro j ⟨hj, haj⟩
  replace hj : j ≤ s.rows.length := hj
  replace haj : (s.rows.take j).all rowOK = true := haj
  refine g_seq ?_
  refine g_seq ?_
  refine g_region ?_
  refine gl_v rfl (o_move rfl) ?_
  first | refine gl_v rfl (o_fldS rfl) ?_ | refine gl_v rfl (o_fld rfl) ?_
  first | refine gl_v rfl (o_load rfl rfl) ?_ | refine gl_v rfl (o_loadS rfl rfl) ?_ | refine gl_v rfl (o_loadC rfl) ?_
  first | refine gl_v rfl (o_len rfl) ?_ | refine gl_v rfl (o_lenL rfl) ?_
  refine gl_v rfl (o_lss rfl rfl) ?_
  refine gl_nil ?_
  refine ge_then ?_
  refine g_cond rfl (fun hc2 => ?_) (fun hc2 => ?_)
  ·
   replace hc2 := hs_ hc2
   obtain ⟨r, hr⟩ : ∃ t, s.rows[j]? = some t := ⟨_, List.getElem?_eq_getElem (show j < s.rows.length by omega)⟩
   have hrm := List.mem_of_getElem? hr
   obtain ⟨⟨hr1, hr2⟩, hre⟩ := hrs r hrm
   haveI iE : RdA (.slice r.ea r.effs.length r.ec) M r.effs.length (r.effs.flatMap effC) := ⟨fun a => ((hM _ a).rows r hrm).rd.1⟩
   refine g_skip ?_
   refine ge_then ?_
   refine g_seq ?_
   refine g_block ?_
   refine g_seq ?_
   refine g_region ?_
   first | refine gl_v rfl (o_fldS rfl) ?_ | refine gl_v rfl (o_fld rfl) ?_
   first | refine gl_v rfl (o_load rfl rfl) ?_ | refine gl_v rfl (o_loadS rfl rfl) ?_ | refine gl_v rfl (o_loadC rfl) ?_
   refine gl_v rfl (o_move rfl) ?_
   refine gl_v rfl (o_idxS rfl rfl (show j < s.rows.length by omega)) ?_
   refine gl_v rfl (o_loadSA rfl (flat_take rowC 4 rowC_len hr) rfl) ?_
   refine gl_n rfl (o_alloc) ?_
   rintro _ _ ⟨b4, rfl, rfl⟩
   first | refine gl_u (o_storeSA rfl rfl rfl rfl (by simp; omega) (by simp)) ?_ | refine gl_u (o_storeA rfl rfl rfl rfl rfl) ?_
   refine gl_nil ?_
   refine ge_then ?_
   refine g_seq ?_
   refine g_seq ?_
   refine g_region ?_
   first | refine gl_v rfl (o_fldS rfl) ?_ | refine gl_v rfl (o_fld rfl) ?_
   first | refine gl_v rfl (o_load rfl rfl) ?_ | refine gl_v rfl (o_loadS rfl rfl) ?_ | refine gl_v rfl (o_loadC rfl) ?_
   refine gl_v rfl (o_eqls rfl rfl) ?_
   refine gl_v rfl (o_move rfl) ?_
   refine gl_join (d := 59) 34 (.bool ((((decide (r.tag = []) && r.only) || (!decide (r.tag = []) && !isName r.tag)) || (r.only && !small r.n)) || (!r.only && !decide (r.n = 0)))) ?_ (fun jk59 => ?_)
   rotate_left
   ·
    refine gl_g rfl rfl (fun hc3 => ?_) (fun hc3 => ?_) rfl
    ·
     have hc3' := hc3
     replace hc3' := hs_ hc3'
     first | refine gl_v rfl (o_fldS rfl) ?_ | refine gl_v rfl (o_fld rfl) ?_
     refine gl_gT rfl rfl hc3 ?_
     first | refine gl_v rfl (o_load rfl rfl) ?_ | refine gl_v rfl (o_loadS rfl rfl) ?_ | refine gl_v rfl (o_loadC rfl) ?_
     refine gl_v rfl (o_pickT hc3 rfl rfl) ?_
     refine gl_v rfl (o_move rfl) ?_
     refine gl_g rfl rfl (fun hc4 => ?_) (fun hc4 => ?_) rfl
     ·
      have hc4' := hc4
      replace hc4' := hs_ hc4'
      first | refine gl_v rfl (o_fldS rfl) ?_ | refine gl_v rfl (o_fld rfl) ?_
      refine gl_gT rfl rfl hc4 ?_
      first | refine gl_v rfl (o_load rfl rfl) ?_ | refine gl_v rfl (o_loadS rfl rfl) ?_ | refine gl_v rfl (o_loadC rfl) ?_
      refine gl_gT rfl rfl hc4 ?_
      refine gl_v rfl (o_neqs rfl rfl) ?_
      refine gl_gT rfl rfl hc4 ?_
      refine gl_v rfl (o_move rfl) ?_
      refine gl_g rfl rfl (fun hc5 => ?_) (fun hc5 => ?_) rfl
      ·
       have hc5' := hc5
       replace hc5' := hs_ hc5'
       first | refine gl_v rfl (o_fldS rfl) ?_ | refine gl_v rfl (o_fld rfl) ?_
       refine gl_gT rfl rfl hc5 ?_
       first | refine gl_v rfl (o_load rfl rfl) ?_ | refine gl_v rfl (o_loadS rfl rfl) ?_ | refine gl_v rfl (o_loadC rfl) ?_
       refine gl_gT rfl rfl hc5 ?_
       refine gl_c rfl (o_call rfl (RName_spec (r.tag) (by omega)) pA) ?_
       rintro _ R ⟨_, ⟨rfl, rfl⟩, rfl⟩
       try simp only [List.cons_append, List.nil_append]
       refine gl_gT rfl rfl hc5 ?_
       refine gl_v rfl (o_not rfl) ?_
       refine gl_gT rfl rfl hc4 ?_
       refine gl_v rfl (o_pickT hc5 rfl rfl) ?_
       refine gl_v rfl (o_pickF hc4 rfl rfl) ?_
       refine gl_v rfl (o_move rfl) ?_
       refine gl_g rfl rfl (fun hc6 => ?_) (fun hc6 => ?_) rfl
       ·
        have hc6' := hc6
        replace hc6' := hs_ hc6'
        first | refine gl_v rfl (o_fldS rfl) ?_ | refine gl_v rfl (o_fld rfl) ?_
        refine gl_gT rfl rfl hc6 ?_
        first | refine gl_v rfl (o_load rfl rfl) ?_ | refine gl_v rfl (o_loadS rfl rfl) ?_ | refine gl_v rfl (o_loadC rfl) ?_
        refine gl_gT rfl rfl hc6 ?_
        refine gl_v rfl (o_move rfl) ?_
        refine gl_g rfl rfl (fun hc7 => ?_) (fun hc7 => ?_) rfl
        ·
         have hc7' := hc7
         replace hc7' := hs_ hc7'
         first | refine gl_v rfl (o_fldS rfl) ?_ | refine gl_v rfl (o_fld rfl) ?_
         refine gl_gT rfl rfl hc7 ?_
         first | refine gl_v rfl (o_load rfl rfl) ?_ | refine gl_v rfl (o_loadS rfl rfl) ?_ | refine gl_v rfl (o_loadC rfl) ?_
         refine gl_gT rfl rfl hc7 ?_
         refine gl_c rfl (o_call rfl (small_spec r.n) pA) ?_
         rintro _ R ⟨_, ⟨rfl, rfl⟩, rfl⟩
         try simp only [List.cons_append, List.nil_append]
         refine gl_gT rfl rfl hc7 ?_
         refine gl_v rfl (o_not rfl) ?_
         refine gl_gT rfl rfl hc6 ?_
         refine gl_v rfl (o_pickT hc7 rfl rfl) ?_
         refine gl_v rfl (o_pickF hc6 rfl rfl) ?_
         refine gl_v rfl (o_move rfl) ?_
         refine gl_g rfl rfl (fun hc8 => ?_) (fun hc8 => ?_) rfl
         ·
          have hc8' := hc8
          replace hc8' := hs_ hc8'
          first | refine gl_v rfl (o_fldS rfl) ?_ | refine gl_v rfl (o_fld rfl) ?_
          refine gl_gT rfl rfl hc8 ?_
          first | refine gl_v rfl (o_load rfl rfl) ?_ | refine gl_v rfl (o_loadS rfl rfl) ?_ | refine gl_v rfl (o_loadC rfl) ?_
          refine gl_gT rfl rfl hc8 ?_
          refine gl_v rfl (o_not rfl) ?_
          refine gl_gT rfl rfl hc8 ?_
          refine gl_v rfl (o_move rfl) ?_
          refine gl_g rfl rfl (fun hc9 => ?_) (fun hc9 => ?_) rfl
          ·
           have hc9' := hc9
           replace hc9' := hs_ hc9'
           first | refine gl_v rfl (o_fldS rfl) ?_ | refine gl_v rfl (o_fld rfl) ?_
           refine gl_gT rfl rfl hc9 ?_
           first | refine gl_v rfl (o_load rfl rfl) ?_ | refine gl_v rfl (o_loadS rfl rfl) ?_ | refine gl_v rfl (o_loadC rfl) ?_
           refine gl_gT rfl rfl hc9 ?_
           refine gl_v rfl (o_neq rfl rfl) ?_
           refine gl_gT rfl rfl hc8 ?_
           refine gl_v rfl (o_pickT hc9 rfl rfl) ?_
           refine gl_v rfl (o_pickF hc8 rfl rfl) ?_
           first | exact jk59 _ (KeepS.top (by repeat (first | exact KeepS.refl _ | refine KeepS.push ?_ rfl)) (jval (by first | rfl | (simp only [hc3, hc4, hc5, hc6, hc7, hc8, hc9, Bool.not_true, Bool.not_false, Bool.false_and, Bool.true_and, Bool.true_or, Bool.false_or]; done) | (simp [hc3, hc4, hc5, hc6, hc7, hc8, hc9, ]; done) | simp_all))) | exact gl_imp (tO) (jk59 _ (KeepS.top (by repeat (first | exact KeepS.refl _ | refine KeepS.push ?_ rfl)) (jval (by first | rfl | (simp only [hc3, hc4, hc5, hc6, hc7, hc8, hc9, Bool.not_true, Bool.not_false, Bool.false_and, Bool.true_and, Bool.true_or, Bool.false_or]; done) | (simp [hc3, hc4, hc5, hc6, hc7, hc8, hc9, ]; done) | simp_all))))
          ·
           have hc9' := hc9
           replace hc9' := hs_ hc9'
           simp only [putO]
           refine gl_gF rfl rfl hc9 rfl ?_
           refine gl_gF rfl rfl hc9 rfl ?_
           refine gl_gT rfl rfl hc8 ?_
           refine gl_v rfl (o_pickF hc9 rfl rfl) ?_
           refine gl_v rfl (o_pickF hc8 rfl rfl) ?_
           first | exact jk59 _ (KeepS.top (by repeat (first | exact KeepS.refl _ | refine KeepS.push ?_ rfl)) (jval (by first | rfl | (simp only [hc3, hc4, hc5, hc6, hc7, hc8, hc9, Bool.not_true, Bool.not_false, Bool.false_and, Bool.true_and, Bool.true_or, Bool.false_or]; done) | (simp [hc3, hc4, hc5, hc6, hc7, hc8, hc9, ]; done) | simp_all))) | exact gl_imp (tO) (jk59 _ (KeepS.top (by repeat (first | exact KeepS.refl _ | refine KeepS.push ?_ rfl)) (jval (by first | rfl | (simp only [hc3, hc4, hc5, hc6, hc7, hc8, hc9, Bool.not_true, Bool.not_false, Bool.false_and, Bool.true_and, Bool.true_or, Bool.false_or]; done) | (simp [hc3, hc4, hc5, hc6, hc7, hc8, hc9, ]; done) | simp_all))))
         ·
          have hc8' := hc8
          replace hc8' := hs_ hc8'
          simp only [putO]
          refine gl_gF rfl rfl hc8 rfl ?_
          refine gl_gF rfl rfl hc8 rfl ?_
          refine gl_gF rfl rfl hc8 rfl ?_
          refine gl_gU rfl rfl rfl ?_
          refine gl_gU rfl rfl rfl ?_
          refine gl_gU rfl rfl rfl ?_
          refine gl_gF rfl rfl hc8 rfl ?_
          refine gl_v rfl (o_pickT hc8 rfl rfl) ?_
          first | exact jk59 _ (KeepS.top (by repeat (first | exact KeepS.refl _ | refine KeepS.push ?_ rfl)) (jval (by first | rfl | (simp only [hc3, hc4, hc5, hc6, hc7, hc8, Bool.not_true, Bool.not_false, Bool.false_and, Bool.true_and, Bool.true_or, Bool.false_or]; done) | (simp [hc3, hc4, hc5, hc6, hc7, hc8, ]; done) | simp_all))) | exact gl_imp (tO) (jk59 _ (KeepS.top (by repeat (first | exact KeepS.refl _ | refine KeepS.push ?_ rfl)) (jval (by first | rfl | (simp only [hc3, hc4, hc5, hc6, hc7, hc8, Bool.not_true, Bool.not_false, Bool.false_and, Bool.true_and, Bool.true_or, Bool.false_or]; done) | (simp [hc3, hc4, hc5, hc6, hc7, hc8, ]; done) | simp_all))))
        ·
         have hc7' := hc7
         replace hc7' := hs_ hc7'
         simp only [putO]
         refine gl_gF rfl rfl hc7 rfl ?_
         refine gl_gF rfl rfl hc7 rfl ?_
         refine gl_gF rfl rfl hc7 rfl ?_
         refine gl_gT rfl rfl hc6 ?_
         refine gl_v rfl (o_pickF hc7 rfl rfl) ?_
         refine gl_v rfl (o_pickF hc6 rfl rfl) ?_
         refine gl_v rfl (o_move rfl) ?_
         refine gl_gT rfl rfl rfl ?_
         first | refine gl_v rfl (o_fldS rfl) ?_ | refine gl_v rfl (o_fld rfl) ?_
         refine gl_gT rfl rfl rfl ?_
         first | refine gl_v rfl (o_load rfl rfl) ?_ | refine gl_v rfl (o_loadS rfl rfl) ?_ | refine gl_v rfl (o_loadC rfl) ?_
         refine gl_gT rfl rfl rfl ?_
         refine gl_v rfl (o_not rfl) ?_
         refine gl_gT rfl rfl rfl ?_
         refine gl_v rfl (o_move rfl) ?_
         refine gl_g rfl rfl (fun hc10 => ?_) (fun hc10 => ?_) rfl
         ·
          have hc10' := hc10
          replace hc10' := hs_ hc10'
          first | refine gl_v rfl (o_fldS rfl) ?_ | refine gl_v rfl (o_fld rfl) ?_
          refine gl_gT rfl rfl hc10 ?_
          first | refine gl_v rfl (o_load rfl rfl) ?_ | refine gl_v rfl (o_loadS rfl rfl) ?_ | refine gl_v rfl (o_loadC rfl) ?_
          refine gl_gT rfl rfl hc10 ?_
          refine gl_v rfl (o_neq rfl rfl) ?_
          refine gl_gT rfl rfl rfl ?_
          refine gl_v rfl (o_pickT hc10 rfl rfl) ?_
          refine gl_v rfl (o_pickF rfl rfl rfl) ?_
          first | exact jk59 _ (KeepS.top (by repeat (first | exact KeepS.refl _ | refine KeepS.push ?_ rfl)) (jval (by first | rfl | (simp only [hc10, hc3, hc4, hc5, hc6, hc7, Bool.not_true, Bool.not_false, Bool.false_and, Bool.true_and, Bool.true_or, Bool.false_or]; done) | (simp [hc10, hc3, hc4, hc5, hc6, hc7, ]; done) | simp_all))) | exact gl_imp (tO) (jk59 _ (KeepS.top (by repeat (first | exact KeepS.refl _ | refine KeepS.push ?_ rfl)) (jval (by first | rfl | (simp only [hc10, hc3, hc4, hc5, hc6, hc7, Bool.not_true, Bool.not_false, Bool.false_and, Bool.true_and, Bool.true_or, Bool.false_or]; done) | (simp [hc10, hc3, hc4, hc5, hc6, hc7, ]; done) | simp_all))))
         ·
          have hc10' := hc10
          replace hc10' := hs_ hc10'
          simp only [putO]
          refine gl_gF rfl rfl hc10 rfl ?_
          refine gl_gF rfl rfl hc10 rfl ?_
          refine gl_gT rfl rfl rfl ?_
          refine gl_v rfl (o_pickF hc10 rfl rfl) ?_
          refine gl_v rfl (o_pickF rfl rfl rfl) ?_
          first | exact jk59 _ (KeepS.top (by repeat (first | exact KeepS.refl _ | refine KeepS.push ?_ rfl)) (jval (by first | rfl | (simp only [hc10, hc3, hc4, hc5, hc6, hc7, Bool.not_true, Bool.not_false, Bool.false_and, Bool.true_and, Bool.true_or, Bool.false_or]; done) | (simp [hc10, hc3, hc4, hc5, hc6, hc7, ]; done) | simp_all))) | exact gl_imp (tO) (jk59 _ (KeepS.top (by repeat (first | exact KeepS.refl _ | refine KeepS.push ?_ rfl)) (jval (by first | rfl | (simp only [hc10, hc3, hc4, hc5, hc6, hc7, Bool.not_true, Bool.not_false, Bool.false_and, Bool.true_and, Bool.true_or, Bool.false_or]; done) | (simp [hc10, hc3, hc4, hc5, hc6, hc7, ]; done) | simp_all))))
       ·
        have hc6' := hc6
        replace hc6' := hs_ hc6'
        simp only [putO]
        refine gl_gF rfl rfl hc6 rfl ?_
        refine gl_gF rfl rfl hc6 rfl ?_
        refine gl_gU rfl rfl rfl ?_
        refine gl_gU rfl rfl rfl ?_
        refine gl_gU rfl rfl rfl ?_
        refine gl_gU rfl rfl rfl ?_
        refine gl_gF rfl rfl hc6 rfl ?_
        refine gl_v rfl (o_pickT hc6 rfl rfl) ?_
        refine gl_v rfl (o_move rfl) ?_
        refine gl_gF rfl rfl rfl rfl ?_
        refine gl_gF rfl rfl rfl rfl ?_
        refine gl_gF rfl rfl rfl rfl ?_
        refine gl_gF rfl rfl rfl rfl ?_
        refine gl_gU rfl rfl rfl ?_
        refine gl_gU rfl rfl rfl ?_
        refine gl_gU rfl rfl rfl ?_
        refine gl_gF rfl rfl rfl rfl ?_
        refine gl_v rfl (o_pickT rfl rfl rfl) ?_
        first | exact jk59 _ (KeepS.top (by repeat (first | exact KeepS.refl _ | refine KeepS.push ?_ rfl)) (jval (by first | rfl | (simp only [hc3, hc4, hc5, hc6, Bool.not_true, Bool.not_false, Bool.false_and, Bool.true_and, Bool.true_or, Bool.false_or]; done) | (simp [hc3, hc4, hc5, hc6, ]; done) | simp_all))) | exact gl_imp (tO) (jk59 _ (KeepS.top (by repeat (first | exact KeepS.refl _ | refine KeepS.push ?_ rfl)) (jval (by first | rfl | (simp only [hc3, hc4, hc5, hc6, Bool.not_true, Bool.not_false, Bool.false_and, Bool.true_and, Bool.true_or, Bool.false_or]; done) | (simp [hc3, hc4, hc5, hc6, ]; done) | simp_all))))
      ·
       have hc5' := hc5
       replace hc5' := hs_ hc5'
       simp only [putO]
       refine gl_gF rfl rfl hc5 rfl ?_
       refine gl_gF rfl rfl hc5 rfl ?_
       refine gl_gF rfl rfl hc5 rfl ?_
       refine gl_gT rfl rfl hc4 ?_
       refine gl_v rfl (o_pickF hc5 rfl rfl) ?_
       refine gl_v rfl (o_pickF hc4 rfl rfl) ?_
       refine gl_v rfl (o_move rfl) ?_
       refine gl_gT rfl rfl rfl ?_
       first | refine gl_v rfl (o_fldS rfl) ?_ | refine gl_v rfl (o_fld rfl) ?_
       refine gl_gT rfl rfl rfl ?_
       first | refine gl_v rfl (o_load rfl rfl) ?_ | refine gl_v rfl (o_loadS rfl rfl) ?_ | refine gl_v rfl (o_loadC rfl) ?_
       refine gl_gT rfl rfl rfl ?_
       refine gl_v rfl (o_move rfl) ?_
       refine gl_g rfl rfl (fun hc11 => ?_) (fun hc11 => ?_) rfl
       ·
        have hc11' := hc11
        replace hc11' := hs_ hc11'
        first | refine gl_v rfl (o_fldS rfl) ?_ | refine gl_v rfl (o_fld rfl) ?_
        refine gl_gT rfl rfl hc11 ?_
        first | refine gl_v rfl (o_load rfl rfl) ?_ | refine gl_v rfl (o_loadS rfl rfl) ?_ | refine gl_v rfl (o_loadC rfl) ?_
        refine gl_gT rfl rfl hc11 ?_
        refine gl_c rfl (o_call rfl (small_spec r.n) pA) ?_
        rintro _ R ⟨_, ⟨rfl, rfl⟩, rfl⟩
        try simp only [List.cons_append, List.nil_append]
        refine gl_gT rfl rfl hc11 ?_
        refine gl_v rfl (o_not rfl) ?_
        refine gl_gT rfl rfl rfl ?_
        refine gl_v rfl (o_pickT hc11 rfl rfl) ?_
        refine gl_v rfl (o_pickF rfl rfl rfl) ?_
        refine gl_v rfl (o_move rfl) ?_
        refine gl_g rfl rfl (fun hc12 => ?_) (fun hc12 => ?_) rfl
        ·
         have hc12' := hc12
         replace hc12' := hs_ hc12'
         first | refine gl_v rfl (o_fldS rfl) ?_ | refine gl_v rfl (o_fld rfl) ?_
         refine gl_gT rfl rfl hc12 ?_
         first | refine gl_v rfl (o_load rfl rfl) ?_ | refine gl_v rfl (o_loadS rfl rfl) ?_ | refine gl_v rfl (o_loadC rfl) ?_
         refine gl_gT rfl rfl hc12 ?_
         refine gl_v rfl (o_not rfl) ?_
         refine gl_gT rfl rfl hc12 ?_
         refine gl_v rfl (o_move rfl) ?_
         refine gl_g rfl rfl (fun hc13 => ?_) (fun hc13 => ?_) rfl
         ·
          have hc13' := hc13
          replace hc13' := hs_ hc13'
          first | refine gl_v rfl (o_fldS rfl) ?_ | refine gl_v rfl (o_fld rfl) ?_
          refine gl_gT rfl rfl hc13 ?_
          first | refine gl_v rfl (o_load rfl rfl) ?_ | refine gl_v rfl (o_loadS rfl rfl) ?_ | refine gl_v rfl (o_loadC rfl) ?_
          refine gl_gT rfl rfl hc13 ?_
          refine gl_v rfl (o_neq rfl rfl) ?_
          refine gl_gT rfl rfl hc12 ?_
          refine gl_v rfl (o_pickT hc13 rfl rfl) ?_
          refine gl_v rfl (o_pickF hc12 rfl rfl) ?_
          first | exact jk59 _ (KeepS.top (by repeat (first | exact KeepS.refl _ | refine KeepS.push ?_ rfl)) (jval (by first | rfl | (simp only [hc11, hc12, hc13, hc3, hc4, hc5, Bool.not_true, Bool.not_false, Bool.false_and, Bool.true_and, Bool.true_or, Bool.false_or]; done) | (simp [hc11, hc12, hc13, hc3, hc4, hc5, ]; done) | simp_all))) | exact gl_imp (tO) (jk59 _ (KeepS.top (by repeat (first | exact KeepS.refl _ | refine KeepS.push ?_ rfl)) (jval (by first | rfl | (simp only [hc11, hc12, hc13, hc3, hc4, hc5, Bool.not_true, Bool.not_false, Bool.false_and, Bool.true_and, Bool.true_or, Bool.false_or]; done) | (simp [hc11, hc12, hc13, hc3, hc4, hc5, ]; done) | simp_all))))
         ·
          have hc13' := hc13
          replace hc13' := hs_ hc13'
          simp only [putO]
          refine gl_gF rfl rfl hc13 rfl ?_
          refine gl_gF rfl rfl hc13 rfl ?_
          refine gl_gT rfl rfl hc12 ?_
          refine gl_v rfl (o_pickF hc13 rfl rfl) ?_
          refine gl_v rfl (o_pickF hc12 rfl rfl) ?_
          first | exact jk59 _ (KeepS.top (by repeat (first | exact KeepS.refl _ | refine KeepS.push ?_ rfl)) (jval (by first | rfl | (simp only [hc11, hc12, hc13, hc3, hc4, hc5, Bool.not_true, Bool.not_false, Bool.false_and, Bool.true_and, Bool.true_or, Bool.false_or]; done) | (simp [hc11, hc12, hc13, hc3, hc4, hc5, ]; done) | simp_all))) | exact gl_imp (tO) (jk59 _ (KeepS.top (by repeat (first | exact KeepS.refl _ | refine KeepS.push ?_ rfl)) (jval (by first | rfl | (simp only [hc11, hc12, hc13, hc3, hc4, hc5, Bool.not_true, Bool.not_false, Bool.false_and, Bool.true_and, Bool.true_or, Bool.false_or]; done) | (simp [hc11, hc12, hc13, hc3, hc4, hc5, ]; done) | simp_all))))
        ·
         have hc12' := hc12
         replace hc12' := hs_ hc12'
         simp only [putO]
         refine gl_gF rfl rfl hc12 rfl ?_
         refine gl_gF rfl rfl hc12 rfl ?_
         refine gl_gF rfl rfl hc12 rfl ?_
         refine gl_gU rfl rfl rfl ?_
         refine gl_gU rfl rfl rfl ?_
         refine gl_gU rfl rfl rfl ?_
         refine gl_gF rfl rfl hc12 rfl ?_
         refine gl_v rfl (o_pickT hc12 rfl rfl) ?_
         first | exact jk59 _ (KeepS.top (by repeat (first | exact KeepS.refl _ | refine KeepS.push ?_ rfl)) (jval (by first | rfl | (simp only [hc11, hc12, hc3, hc4, hc5, Bool.not_true, Bool.not_false, Bool.false_and, Bool.true_and, Bool.true_or, Bool.false_or]; done) | (simp [hc11, hc12, hc3, hc4, hc5, ]; done) | simp_all))) | exact gl_imp (tO) (jk59 _ (KeepS.top (by repeat (first | exact KeepS.refl _ | refine KeepS.push ?_ rfl)) (jval (by first | rfl | (simp only [hc11, hc12, hc3, hc4, hc5, Bool.not_true, Bool.not_false, Bool.false_and, Bool.true_and, Bool.true_or, Bool.false_or]; done) | (simp [hc11, hc12, hc3, hc4, hc5, ]; done) | simp_all))))
       ·
        have hc11' := hc11
        replace hc11' := hs_ hc11'
        simp only [putO]
        refine gl_gF rfl rfl hc11 rfl ?_
        refine gl_gF rfl rfl hc11 rfl ?_
        refine gl_gF rfl rfl hc11 rfl ?_
        refine gl_gT rfl rfl rfl ?_
        refine gl_v rfl (o_pickF hc11 rfl rfl) ?_
        refine gl_v rfl (o_pickF rfl rfl rfl) ?_
        refine gl_v rfl (o_move rfl) ?_
        refine gl_gT rfl rfl rfl ?_
        first | refine gl_v rfl (o_fldS rfl) ?_ | refine gl_v rfl (o_fld rfl) ?_
        refine gl_gT rfl rfl rfl ?_
        first | refine gl_v rfl (o_load rfl rfl) ?_ | refine gl_v rfl (o_loadS rfl rfl) ?_ | refine gl_v rfl (o_loadC rfl) ?_
        refine gl_gT rfl rfl rfl ?_
        refine gl_v rfl (o_not rfl) ?_
        refine gl_gT rfl rfl rfl ?_
        refine gl_v rfl (o_move rfl) ?_
        refine gl_g rfl rfl (fun hc14 => ?_) (fun hc14 => ?_) rfl
        ·
         have hc14' := hc14
         replace hc14' := hs_ hc14'
         first | refine gl_v rfl (o_fldS rfl) ?_ | refine gl_v rfl (o_fld rfl) ?_
         refine gl_gT rfl rfl hc14 ?_
         first | refine gl_v rfl (o_load rfl rfl) ?_ | refine gl_v rfl (o_loadS rfl rfl) ?_ | refine gl_v rfl (o_loadC rfl) ?_
         refine gl_gT rfl rfl hc14 ?_
         refine gl_v rfl (o_neq rfl rfl) ?_
         refine gl_gT rfl rfl rfl ?_
         refine gl_v rfl (o_pickT hc14 rfl rfl) ?_
         refine gl_v rfl (o_pickF rfl rfl rfl) ?_
         first | exact jk59 _ (KeepS.top (by repeat (first | exact KeepS.refl _ | refine KeepS.push ?_ rfl)) (jval (by first | rfl | (simp only [hc11, hc14, hc3, hc4, hc5, Bool.not_true, Bool.not_false, Bool.false_and, Bool.true_and, Bool.true_or, Bool.false_or]; done) | (simp [hc11, hc14, hc3, hc4, hc5, ]; done) | simp_all))) | exact gl_imp (tO) (jk59 _ (KeepS.top (by repeat (first | exact KeepS.refl _ | refine KeepS.push ?_ rfl)) (jval (by first | rfl | (simp only [hc11, hc14, hc3, hc4, hc5, Bool.not_true, Bool.not_false, Bool.false_and, Bool.true_and, Bool.true_or, Bool.false_or]; done) | (simp [hc11, hc14, hc3, hc4, hc5, ]; done) | simp_all))))
        ·
         have hc14' := hc14
         replace hc14' := hs_ hc14'
         simp only [putO]
         refine gl_gF rfl rfl hc14 rfl ?_
         refine gl_gF rfl rfl hc14 rfl ?_
         refine gl_gT rfl rfl rfl ?_
         refine gl_v rfl (o_pickF hc14 rfl rfl) ?_
         refine gl_v rfl (o_pickF rfl rfl rfl) ?_
         first | exact jk59 _ (KeepS.top (by repeat (first | exact KeepS.refl _ | refine KeepS.push ?_ rfl)) (jval (by first | rfl | (simp only [hc11, hc14, hc3, hc4, hc5, Bool.not_true, Bool.not_false, Bool.false_and, Bool.true_and, Bool.true_or, Bool.false_or]; done) | (simp [hc11, hc14, hc3, hc4, hc5, ]; done) | simp_all))) | exact gl_imp (tO) (jk59 _ (KeepS.top (by repeat (first | exact KeepS.refl _ | refine KeepS.push ?_ rfl)) (jval (by first | rfl | (simp only [hc11, hc14, hc3, hc4, hc5, Bool.not_true, Bool.not_false, Bool.false_and, Bool.true_and, Bool.true_or, Bool.false_or]; done) | (simp [hc11, hc14, hc3, hc4, hc5, ]; done) | simp_all))))
     ·
      have hc4' := hc4
      replace hc4' := hs_ hc4'
      simp only [putO]
      refine gl_gF rfl rfl hc4 rfl ?_
      refine gl_gF rfl rfl hc4 rfl ?_
      refine gl_gF rfl rfl hc4 rfl ?_
      refine gl_gU rfl rfl rfl ?_
      refine gl_gU rfl rfl rfl ?_
      refine gl_gU rfl rfl rfl ?_
      refine gl_gU rfl rfl rfl ?_
      refine gl_gF rfl rfl hc4 rfl ?_
      refine gl_v rfl (o_pickT hc4 rfl rfl) ?_
      refine gl_v rfl (o_move rfl) ?_
      refine gl_gF rfl rfl rfl rfl ?_
      refine gl_gF rfl rfl rfl rfl ?_
      refine gl_gF rfl rfl rfl rfl ?_
      refine gl_gU rfl rfl rfl ?_
      refine gl_gU rfl rfl rfl ?_
      refine gl_gU rfl rfl rfl ?_
      refine gl_gU rfl rfl rfl ?_
      refine gl_gF rfl rfl rfl rfl ?_
      refine gl_v rfl (o_pickT rfl rfl rfl) ?_
      refine gl_v rfl (o_move rfl) ?_
      refine gl_gF rfl rfl rfl rfl ?_
      refine gl_gF rfl rfl rfl rfl ?_
      refine gl_gF rfl rfl rfl rfl ?_
      refine gl_gF rfl rfl rfl rfl ?_
      refine gl_gU rfl rfl rfl ?_
      refine gl_gU rfl rfl rfl ?_
      refine gl_gU rfl rfl rfl ?_
      refine gl_gF rfl rfl rfl rfl ?_
      refine gl_v rfl (o_pickT rfl rfl rfl) ?_
      first | exact jk59 _ (KeepS.top (by repeat (first | exact KeepS.refl _ | refine KeepS.push ?_ rfl)) (jval (by first | rfl | (simp only [hc3, hc4, Bool.not_true, Bool.not_false, Bool.false_and, Bool.true_and, Bool.true_or, Bool.false_or]; done) | (simp [hc3, hc4, ]; done) | simp_all))) | exact gl_imp (tO) (jk59 _ (KeepS.top (by repeat (first | exact KeepS.refl _ | refine KeepS.push ?_ rfl)) (jval (by first | rfl | (simp only [hc3, hc4, Bool.not_true, Bool.not_false, Bool.false_and, Bool.true_and, Bool.true_or, Bool.false_or]; done) | (simp [hc3, hc4, ]; done) | simp_all))))
    ·
     have hc3' := hc3
     replace hc3' := hs_ hc3'
     simp only [putO]
     refine gl_gF rfl rfl hc3 rfl ?_
     refine gl_v rfl (o_pickF hc3 rfl rfl) ?_
     refine gl_v rfl (o_move rfl) ?_
     refine gl_gT rfl rfl rfl ?_
     first | refine gl_v rfl (o_fldS rfl) ?_ | refine gl_v rfl (o_fld rfl) ?_
     refine gl_gT rfl rfl rfl ?_
     first | refine gl_v rfl (o_load rfl rfl) ?_ | refine gl_v rfl (o_loadS rfl rfl) ?_ | refine gl_v rfl (o_loadC rfl) ?_
     refine gl_gT rfl rfl rfl ?_
     refine gl_v rfl (o_neqs rfl rfl) ?_
     refine gl_gT rfl rfl rfl ?_
     refine gl_v rfl (o_move rfl) ?_
     refine gl_g rfl rfl (fun hc15 => ?_) (fun hc15 => ?_) rfl
     ·
      have hc15' := hc15
      replace hc15' := hs_ hc15'
      first | refine gl_v rfl (o_fldS rfl) ?_ | refine gl_v rfl (o_fld rfl) ?_
      refine gl_gT rfl rfl hc15 ?_
      first | refine gl_v rfl (o_load rfl rfl) ?_ | refine gl_v rfl (o_loadS rfl rfl) ?_ | refine gl_v rfl (o_loadC rfl) ?_
      refine gl_gT rfl rfl hc15 ?_
      refine gl_c rfl (o_call rfl (RName_spec (r.tag) (by omega)) pA) ?_
      rintro _ R ⟨_, ⟨rfl, rfl⟩, rfl⟩
      try simp only [List.cons_append, List.nil_append]
      refine gl_gT rfl rfl hc15 ?_
      refine gl_v rfl (o_not rfl) ?_
      refine gl_gT rfl rfl rfl ?_
      refine gl_v rfl (o_pickT hc15 rfl rfl) ?_
      refine gl_v rfl (o_pickF rfl rfl rfl) ?_
      refine gl_v rfl (o_move rfl) ?_
      refine gl_g rfl rfl (fun hc16 => ?_) (fun hc16 => ?_) rfl
      ·
       have hc16' := hc16
       replace hc16' := hs_ hc16'
       first | refine gl_v rfl (o_fldS rfl) ?_ | refine gl_v rfl (o_fld rfl) ?_
       refine gl_gT rfl rfl hc16 ?_
       first | refine gl_v rfl (o_load rfl rfl) ?_ | refine gl_v rfl (o_loadS rfl rfl) ?_ | refine gl_v rfl (o_loadC rfl) ?_
       refine gl_gT rfl rfl hc16 ?_
       refine gl_v rfl (o_move rfl) ?_
       refine gl_g rfl rfl (fun hc17 => ?_) (fun hc17 => ?_) rfl
       ·
        have hc17' := hc17
        replace hc17' := hs_ hc17'
        first | refine gl_v rfl (o_fldS rfl) ?_ | refine gl_v rfl (o_fld rfl) ?_
        refine gl_gT rfl rfl hc17 ?_
        first | refine gl_v rfl (o_load rfl rfl) ?_ | refine gl_v rfl (o_loadS rfl rfl) ?_ | refine gl_v rfl (o_loadC rfl) ?_
        refine gl_gT rfl rfl hc17 ?_
        refine gl_c rfl (o_call rfl (small_spec r.n) pA) ?_
        rintro _ R ⟨_, ⟨rfl, rfl⟩, rfl⟩
        try simp only [List.cons_append, List.nil_append]
        refine gl_gT rfl rfl hc17 ?_
        refine gl_v rfl (o_not rfl) ?_
        refine gl_gT rfl rfl hc16 ?_
        refine gl_v rfl (o_pickT hc17 rfl rfl) ?_
        refine gl_v rfl (o_pickF hc16 rfl rfl) ?_
        refine gl_v rfl (o_move rfl) ?_
        refine gl_g rfl rfl (fun hc18 => ?_) (fun hc18 => ?_) rfl
        ·
         have hc18' := hc18
         replace hc18' := hs_ hc18'
         first | refine gl_v rfl (o_fldS rfl) ?_ | refine gl_v rfl (o_fld rfl) ?_
         refine gl_gT rfl rfl hc18 ?_
         first | refine gl_v rfl (o_load rfl rfl) ?_ | refine gl_v rfl (o_loadS rfl rfl) ?_ | refine gl_v rfl (o_loadC rfl) ?_
         refine gl_gT rfl rfl hc18 ?_
         refine gl_v rfl (o_not rfl) ?_
         refine gl_gT rfl rfl hc18 ?_
         refine gl_v rfl (o_move rfl) ?_
         refine gl_g rfl rfl (fun hc19 => ?_) (fun hc19 => ?_) rfl
         ·
          have hc19' := hc19
          replace hc19' := hs_ hc19'
          first | refine gl_v rfl (o_fldS rfl) ?_ | refine gl_v rfl (o_fld rfl) ?_
          refine gl_gT rfl rfl hc19 ?_
          first | refine gl_v rfl (o_load rfl rfl) ?_ | refine gl_v rfl (o_loadS rfl rfl) ?_ | refine gl_v rfl (o_loadC rfl) ?_
          refine gl_gT rfl rfl hc19 ?_
          refine gl_v rfl (o_neq rfl rfl) ?_
          refine gl_gT rfl rfl hc18 ?_
          refine gl_v rfl (o_pickT hc19 rfl rfl) ?_
          refine gl_v rfl (o_pickF hc18 rfl rfl) ?_
          first | exact jk59 _ (KeepS.top (by repeat (first | exact KeepS.refl _ | refine KeepS.push ?_ rfl)) (jval (by first | rfl | (simp only [hc15, hc16, hc17, hc18, hc19, hc3, Bool.not_true, Bool.not_false, Bool.false_and, Bool.true_and, Bool.true_or, Bool.false_or]; done) | (simp [hc15, hc16, hc17, hc18, hc19, hc3, ]; done) | simp_all))) | exact gl_imp (tO) (jk59 _ (KeepS.top (by repeat (first | exact KeepS.refl _ | refine KeepS.push ?_ rfl)) (jval (by first | rfl | (simp only [hc15, hc16, hc17, hc18, hc19, hc3, Bool.not_true, Bool.not_false, Bool.false_and, Bool.true_and, Bool.true_or, Bool.false_or]; done) | (simp [hc15, hc16, hc17, hc18, hc19, hc3, ]; done) | simp_all))))
         ·
          have hc19' := hc19
          replace hc19' := hs_ hc19'
          simp only [putO]
          refine gl_gF rfl rfl hc19 rfl ?_
          refine gl_gF rfl rfl hc19 rfl ?_
          refine gl_gT rfl rfl hc18 ?_
          refine gl_v rfl (o_pickF hc19 rfl rfl) ?_
          refine gl_v rfl (o_pickF hc18 rfl rfl) ?_
          first | exact jk59 _ (KeepS.top (by repeat (first | exact KeepS.refl _ | refine KeepS.push ?_ rfl)) (jval (by first | rfl | (simp only [hc15, hc16, hc17, hc18, hc19, hc3, Bool.not_true, Bool.not_false, Bool.false_and, Bool.true_and, Bool.true_or, Bool.false_or]; done) | (simp [hc15, hc16, hc17, hc18, hc19, hc3, ]; done) | simp_all))) | exact gl_imp (tO) (jk59 _ (KeepS.top (by repeat (first | exact KeepS.refl _ | refine KeepS.push ?_ rfl)) (jval (by first | rfl | (simp only [hc15, hc16, hc17, hc18, hc19, hc3, Bool.not_true, Bool.not_false, Bool.false_and, Bool.true_and, Bool.true_or, Bool.false_or]; done) | (simp [hc15, hc16, hc17, hc18, hc19, hc3, ]; done) | simp_all))))
        ·
         have hc18' := hc18
         replace hc18' := hs_ hc18'
         simp only [putO]
         refine gl_gF rfl rfl hc18 rfl ?_
         refine gl_gF rfl rfl hc18 rfl ?_
         refine gl_gF rfl rfl hc18 rfl ?_
         refine gl_gU rfl rfl rfl ?_
         refine gl_gU rfl rfl rfl ?_
         refine gl_gU rfl rfl rfl ?_
         refine gl_gF rfl rfl hc18 rfl ?_
         refine gl_v rfl (o_pickT hc18 rfl rfl) ?_
         first | exact jk59 _ (KeepS.top (by repeat (first | exact KeepS.refl _ | refine KeepS.push ?_ rfl)) (jval (by first | rfl | (simp only [hc15, hc16, hc17, hc18, hc3, Bool.not_true, Bool.not_false, Bool.false_and, Bool.true_and, Bool.true_or, Bool.false_or]; done) | (simp [hc15, hc16, hc17, hc18, hc3, ]; done) | simp_all))) | exact gl_imp (tO) (jk59 _ (KeepS.top (by repeat (first | exact KeepS.refl _ | refine KeepS.push ?_ rfl)) (jval (by first | rfl | (simp only [hc15, hc16, hc17, hc18, hc3, Bool.not_true, Bool.not_false, Bool.false_and, Bool.true_and, Bool.true_or, Bool.false_or]; done) | (simp [hc15, hc16, hc17, hc18, hc3, ]; done) | simp_all))))
       ·
        have hc17' := hc17
        replace hc17' := hs_ hc17'
        simp only [putO]
        refine gl_gF rfl rfl hc17 rfl ?_
        refine gl_gF rfl rfl hc17 rfl ?_
        refine gl_gF rfl rfl hc17 rfl ?_
        refine gl_gT rfl rfl hc16 ?_
        refine gl_v rfl (o_pickF hc17 rfl rfl) ?_
        refine gl_v rfl (o_pickF hc16 rfl rfl) ?_
        refine gl_v rfl (o_move rfl) ?_
        refine gl_gT rfl rfl rfl ?_
        first | refine gl_v rfl (o_fldS rfl) ?_ | refine gl_v rfl (o_fld rfl) ?_
        refine gl_gT rfl rfl rfl ?_
        first | refine gl_v rfl (o_load rfl rfl) ?_ | refine gl_v rfl (o_loadS rfl rfl) ?_ | refine gl_v rfl (o_loadC rfl) ?_
        refine gl_gT rfl rfl rfl ?_
        refine gl_v rfl (o_not rfl) ?_
        refine gl_gT rfl rfl rfl ?_
        refine gl_v rfl (o_move rfl) ?_
        refine gl_g rfl rfl (fun hc20 => ?_) (fun hc20 => ?_) rfl
        ·
         have hc20' := hc20
         replace hc20' := hs_ hc20'
         first | refine gl_v rfl (o_fldS rfl) ?_ | refine gl_v rfl (o_fld rfl) ?_
         refine gl_gT rfl rfl hc20 ?_
         first | refine gl_v rfl (o_load rfl rfl) ?_ | refine gl_v rfl (o_loadS rfl rfl) ?_ | refine gl_v rfl (o_loadC rfl) ?_
         refine gl_gT rfl rfl hc20 ?_
         refine gl_v rfl (o_neq rfl rfl) ?_
         refine gl_gT rfl rfl rfl ?_
         refine gl_v rfl (o_pickT hc20 rfl rfl) ?_
         refine gl_v rfl (o_pickF rfl rfl rfl) ?_
         first | exact jk59 _ (KeepS.top (by repeat (first | exact KeepS.refl _ | refine KeepS.push ?_ rfl)) (jval (by first | rfl | (simp only [hc15, hc16, hc17, hc20, hc3, Bool.not_true, Bool.not_false, Bool.false_and, Bool.true_and, Bool.true_or, Bool.false_or]; done) | (simp [hc15, hc16, hc17, hc20, hc3, ]; done) | simp_all))) | exact gl_imp (tO) (jk59 _ (KeepS.top (by repeat (first | exact KeepS.refl _ | refine KeepS.push ?_ rfl)) (jval (by first | rfl | (simp only [hc15, hc16, hc17, hc20, hc3, Bool.not_true, Bool.not_false, Bool.false_and, Bool.true_and, Bool.true_or, Bool.false_or]; done) | (simp [hc15, hc16, hc17, hc20, hc3, ]; done) | simp_all))))
        ·
         have hc20' := hc20
         replace hc20' := hs_ hc20'
         simp only [putO]
         refine gl_gF rfl rfl hc20 rfl ?_
         refine gl_gF rfl rfl hc20 rfl ?_
         refine gl_gT rfl rfl rfl ?_
         refine gl_v rfl (o_pickF hc20 rfl rfl) ?_
         refine gl_v rfl (o_pickF rfl rfl rfl) ?_
         first | exact jk59 _ (KeepS.top (by repeat (first | exact KeepS.refl _ | refine KeepS.push ?_ rfl)) (jval (by first | rfl | (simp only [hc15, hc16, hc17, hc20, hc3, Bool.not_true, Bool.not_false, Bool.false_and, Bool.true_and, Bool.true_or, Bool.false_or]; done) | (simp [hc15, hc16, hc17, hc20, hc3, ]; done) | simp_all))) | exact gl_imp (tO) (jk59 _ (KeepS.top (by repeat (first | exact KeepS.refl _ | refine KeepS.push ?_ rfl)) (jval (by first | rfl | (simp only [hc15, hc16, hc17, hc20, hc3, Bool.not_true, Bool.not_false, Bool.false_and, Bool.true_and, Bool.true_or, Bool.false_or]; done) | (simp [hc15, hc16, hc17, hc20, hc3, ]; done) | simp_all))))
      ·
       have hc16' := hc16
       replace hc16' := hs_ hc16'
       simp only [putO]
       refine gl_gF rfl rfl hc16 rfl ?_
       refine gl_gF rfl rfl hc16 rfl ?_
       refine gl_gU rfl rfl rfl ?_
       refine gl_gU rfl rfl rfl ?_
       refine gl_gU rfl rfl rfl ?_
       refine gl_gU rfl rfl rfl ?_
       refine gl_gF rfl rfl hc16 rfl ?_
       refine gl_v rfl (o_pickT hc16 rfl rfl) ?_
       refine gl_v rfl (o_move rfl) ?_
       refine gl_gF rfl rfl rfl rfl ?_
       refine gl_gF rfl rfl rfl rfl ?_
       refine gl_gF rfl rfl rfl rfl ?_
       refine gl_gF rfl rfl rfl rfl ?_
       refine gl_gU rfl rfl rfl ?_
       refine gl_gU rfl rfl rfl ?_
       refine gl_gU rfl rfl rfl ?_
       refine gl_gF rfl rfl rfl rfl ?_
       refine gl_v rfl (o_pickT rfl rfl rfl) ?_
       first | exact jk59 _ (KeepS.top (by repeat (first | exact KeepS.refl _ | refine KeepS.push ?_ rfl)) (jval (by first | rfl | (simp only [hc15, hc16, hc3, Bool.not_true, Bool.not_false, Bool.false_and, Bool.true_and, Bool.true_or, Bool.false_or]; done) | (simp [hc15, hc16, hc3, ]; done) | simp_all))) | exact gl_imp (tO) (jk59 _ (KeepS.top (by repeat (first | exact KeepS.refl _ | refine KeepS.push ?_ rfl)) (jval (by first | rfl | (simp only [hc15, hc16, hc3, Bool.not_true, Bool.not_false, Bool.false_and, Bool.true_and, Bool.true_or, Bool.false_or]; done) | (simp [hc15, hc16, hc3, ]; done) | simp_all))))
     ·
      have hc15' := hc15
      replace hc15' := hs_ hc15'
      simp only [putO]
      refine gl_gF rfl rfl hc15 rfl ?_
      refine gl_gF rfl rfl hc15 rfl ?_
      refine gl_gF rfl rfl hc15 rfl ?_
      refine gl_gT rfl rfl rfl ?_
      refine gl_v rfl (o_pickF hc15 rfl rfl) ?_
      refine gl_v rfl (o_pickF rfl rfl rfl) ?_
      refine gl_v rfl (o_move rfl) ?_
      refine gl_gT rfl rfl rfl ?_
      first | refine gl_v rfl (o_fldS rfl) ?_ | refine gl_v rfl (o_fld rfl) ?_
      refine gl_gT rfl rfl rfl ?_
      first | refine gl_v rfl (o_load rfl rfl) ?_ | refine gl_v rfl (o_loadS rfl rfl) ?_ | refine gl_v rfl (o_loadC rfl) ?_
      refine gl_gT rfl rfl rfl ?_
      refine gl_v rfl (o_move rfl) ?_
      refine gl_g rfl rfl (fun hc21 => ?_) (fun hc21 => ?_) rfl
      ·
       have hc21' := hc21
       replace hc21' := hs_ hc21'
       first | refine gl_v rfl (o_fldS rfl) ?_ | refine gl_v rfl (o_fld rfl) ?_
       refine gl_gT rfl rfl hc21 ?_
       first | refine gl_v rfl (o_load rfl rfl) ?_ | refine gl_v rfl (o_loadS rfl rfl) ?_ | refine gl_v rfl (o_loadC rfl) ?_
       refine gl_gT rfl rfl hc21 ?_
       refine gl_c rfl (o_call rfl (small_spec r.n) pA) ?_
       rintro _ R ⟨_, ⟨rfl, rfl⟩, rfl⟩
       try simp only [List.cons_append, List.nil_append]
       refine gl_gT rfl rfl hc21 ?_
       refine gl_v rfl (o_not rfl) ?_
       refine gl_gT rfl rfl rfl ?_
       refine gl_v rfl (o_pickT hc21 rfl rfl) ?_
       refine gl_v rfl (o_pickF rfl rfl rfl) ?_
       refine gl_v rfl (o_move rfl) ?_
       refine gl_g rfl rfl (fun hc22 => ?_) (fun hc22 => ?_) rfl
       ·
        have hc22' := hc22
        replace hc22' := hs_ hc22'
        first | refine gl_v rfl (o_fldS rfl) ?_ | refine gl_v rfl (o_fld rfl) ?_
        refine gl_gT rfl rfl hc22 ?_
        first | refine gl_v rfl (o_load rfl rfl) ?_ | refine gl_v rfl (o_loadS rfl rfl) ?_ | refine gl_v rfl (o_loadC rfl) ?_
        refine gl_gT rfl rfl hc22 ?_
        refine gl_v rfl (o_not rfl) ?_
        refine gl_gT rfl rfl hc22 ?_
        refine gl_v rfl (o_move rfl) ?_
        refine gl_g rfl rfl (fun hc23 => ?_) (fun hc23 => ?_) rfl
        ·
         have hc23' := hc23
         replace hc23' := hs_ hc23'
         first | refine gl_v rfl (o_fldS rfl) ?_ | refine gl_v rfl (o_fld rfl) ?_
         refine gl_gT rfl rfl hc23 ?_
         first | refine gl_v rfl (o_load rfl rfl) ?_ | refine gl_v rfl (o_loadS rfl rfl) ?_ | refine gl_v rfl (o_loadC rfl) ?_
         refine gl_gT rfl rfl hc23 ?_
         refine gl_v rfl (o_neq rfl rfl) ?_
         refine gl_gT rfl rfl hc22 ?_
         refine gl_v rfl (o_pickT hc23 rfl rfl) ?_
         refine gl_v rfl (o_pickF hc22 rfl rfl) ?_
         first | exact jk59 _ (KeepS.top (by repeat (first | exact KeepS.refl _ | refine KeepS.push ?_ rfl)) (jval (by first | rfl | (simp only [hc15, hc21, hc22, hc23, hc3, Bool.not_true, Bool.not_false, Bool.false_and, Bool.true_and, Bool.true_or, Bool.false_or]; done) | (simp [hc15, hc21, hc22, hc23, hc3, ]; done) | simp_all))) | exact gl_imp (tO) (jk59 _ (KeepS.top (by repeat (first | exact KeepS.refl _ | refine KeepS.push ?_ rfl)) (jval (by first | rfl | (simp only [hc15, hc21, hc22, hc23, hc3, Bool.not_true, Bool.not_false, Bool.false_and, Bool.true_and, Bool.true_or, Bool.false_or]; done) | (simp [hc15, hc21, hc22, hc23, hc3, ]; done) | simp_all))))
        ·
         have hc23' := hc23
         replace hc23' := hs_ hc23'
         simp only [putO]
         refine gl_gF rfl rfl hc23 rfl ?_
         refine gl_gF rfl rfl hc23 rfl ?_
         refine gl_gT rfl rfl hc22 ?_
         refine gl_v rfl (o_pickF hc23 rfl rfl) ?_
         refine gl_v rfl (o_pickF hc22 rfl rfl) ?_
         first | exact jk59 _ (KeepS.top (by repeat (first | exact KeepS.refl _ | refine KeepS.push ?_ rfl)) (jval (by first | rfl | (simp only [hc15, hc21, hc22, hc23, hc3, Bool.not_true, Bool.not_false, Bool.false_and, Bool.true_and, Bool.true_or, Bool.false_or]; done) | (simp [hc15, hc21, hc22, hc23, hc3, ]; done) | simp_all))) | exact gl_imp (tO) (jk59 _ (KeepS.top (by repeat (first | exact KeepS.refl _ | refine KeepS.push ?_ rfl)) (jval (by first | rfl | (simp only [hc15, hc21, hc22, hc23, hc3, Bool.not_true, Bool.not_false, Bool.false_and, Bool.true_and, Bool.true_or, Bool.false_or]; done) | (simp [hc15, hc21, hc22, hc23, hc3, ]; done) | simp_all))))
       ·
        have hc22' := hc22
        replace hc22' := hs_ hc22'
        simp only [putO]
        refine gl_gF rfl rfl hc22 rfl ?_
        refine gl_gF rfl rfl hc22 rfl ?_
        refine gl_gF rfl rfl hc22 rfl ?_
        refine gl_gU rfl rfl rfl ?_
        refine gl_gU rfl rfl rfl ?_
        refine gl_gU rfl rfl rfl ?_
        refine gl_gF rfl rfl hc22 rfl ?_
        refine gl_v rfl (o_pickT hc22 rfl rfl) ?_
        first | exact jk59 _ (KeepS.top (by repeat (first | exact KeepS.refl _ | refine KeepS.push ?_ rfl)) (jval (by first | rfl | (simp only [hc15, hc21, hc22, hc3, Bool.not_true, Bool.not_false, Bool.false_and, Bool.true_and, Bool.true_or, Bool.false_or]; done) | (simp [hc15, hc21, hc22, hc3, ]; done) | simp_all))) | exact gl_imp (tO) (jk59 _ (KeepS.top (by repeat (first | exact KeepS.refl _ | refine KeepS.push ?_ rfl)) (jval (by first | rfl | (simp only [hc15, hc21, hc22, hc3, Bool.not_true, Bool.not_false, Bool.false_and, Bool.true_and, Bool.true_or, Bool.false_or]; done) | (simp [hc15, hc21, hc22, hc3, ]; done) | simp_all))))
      ·
       have hc21' := hc21
       replace hc21' := hs_ hc21'
       simp only [putO]
       refine gl_gF rfl rfl hc21 rfl ?_
       refine gl_gF rfl rfl hc21 rfl ?_
       refine gl_gF rfl rfl hc21 rfl ?_
       refine gl_gT rfl rfl rfl ?_
       refine gl_v rfl (o_pickF hc21 rfl rfl) ?_
       refine gl_v rfl (o_pickF rfl rfl rfl) ?_
       refine gl_v rfl (o_move rfl) ?_
       refine gl_gT rfl rfl rfl ?_
       first | refine gl_v rfl (o_fldS rfl) ?_ | refine gl_v rfl (o_fld rfl) ?_
       refine gl_gT rfl rfl rfl ?_
       first | refine gl_v rfl (o_load rfl rfl) ?_ | refine gl_v rfl (o_loadS rfl rfl) ?_ | refine gl_v rfl (o_loadC rfl) ?_
       refine gl_gT rfl rfl rfl ?_
       refine gl_v rfl (o_not rfl) ?_
       refine gl_gT rfl rfl rfl ?_
       refine gl_v rfl (o_move rfl) ?_
       refine gl_g rfl rfl (fun hc24 => ?_) (fun hc24 => ?_) rfl
       ·
        have hc24' := hc24
        replace hc24' := hs_ hc24'
        first | refine gl_v rfl (o_fldS rfl) ?_ | refine gl_v rfl (o_fld rfl) ?_
        refine gl_gT rfl rfl hc24 ?_
        first | refine gl_v rfl (o_load rfl rfl) ?_ | refine gl_v rfl (o_loadS rfl rfl) ?_ | refine gl_v rfl (o_loadC rfl) ?_
        refine gl_gT rfl rfl hc24 ?_
        refine gl_v rfl (o_neq rfl rfl) ?_
        refine gl_gT rfl rfl rfl ?_
        refine gl_v rfl (o_pickT hc24 rfl rfl) ?_
        refine gl_v rfl (o_pickF rfl rfl rfl) ?_
        first | exact jk59 _ (KeepS.top (by repeat (first | exact KeepS.refl _ | refine KeepS.push ?_ rfl)) (jval (by first | rfl | (simp only [hc15, hc21, hc24, hc3, Bool.not_true, Bool.not_false, Bool.false_and, Bool.true_and, Bool.true_or, Bool.false_or]; done) | (simp [hc15, hc21, hc24, hc3, ]; done) | simp_all))) | exact gl_imp (tO) (jk59 _ (KeepS.top (by repeat (first | exact KeepS.refl _ | refine KeepS.push ?_ rfl)) (jval (by first | rfl | (simp only [hc15, hc21, hc24, hc3, Bool.not_true, Bool.not_false, Bool.false_and, Bool.true_and, Bool.true_or, Bool.false_or]; done) | (simp [hc15, hc21, hc24, hc3, ]; done) | simp_all))))
       ·
        have hc24' := hc24
        replace hc24' := hs_ hc24'
        simp only [putO]
        refine gl_gF rfl rfl hc24 rfl ?_
        refine gl_gF rfl rfl hc24 rfl ?_
        refine gl_gT rfl rfl rfl ?_
        refine gl_v rfl (o_pickF hc24 rfl rfl) ?_
        refine gl_v rfl (o_pickF rfl rfl rfl) ?_
        first | exact jk59 _ (KeepS.top (by repeat (first | exact KeepS.refl _ | refine KeepS.push ?_ rfl)) (jval (by first | rfl | (simp only [hc15, hc21, hc24, hc3, Bool.not_true, Bool.not_false, Bool.false_and, Bool.true_and, Bool.true_or, Bool.false_or]; done) | (simp [hc15, hc21, hc24, hc3, ]; done) | simp_all))) | exact gl_imp (tO) (jk59 _ (KeepS.top (by repeat (first | exact KeepS.refl _ | refine KeepS.push ?_ rfl)) (jval (by first | rfl | (simp only [hc15, hc21, hc24, hc3, Bool.not_true, Bool.not_false, Bool.false_and, Bool.true_and, Bool.true_or, Bool.false_or]; done) | (simp [hc15, hc21, hc24, hc3, ]; done) | simp_all))))
   refine gl_nil ?_
   refine ge_then ?_
   refine g_cond rfl (fun hc25 => ?_) (fun hc25 => ?_)
   ·
    replace hc25 := hs_ hc25
    have hA := hc25
    refine g_seq ?_
    refine g_region ?_
    refine gl_v rfl (o_assign rfl) ?_
    refine gl_nil ?_
    refine ge_then ?_
    refine g_ret ?_
    refine ge_then_ret ?_
    refine ge_block_ret ?_
    refine ge_then_ret ?_
    refine ge_then_ret ?_
    refine ge_block_ret ?_
    refine ge_then_ret ?_
    refine ret1 (.inl rfl) rfl rfl _ (⟨bv (sta_no2 hrm (row_no1 hA)).symm, rfl⟩) (tO)
   ·
    replace hc25 := hs_ hc25
    have hA := hc25
    refine g_skip ?_
    refine ge_then ?_
    refine g_seq ?_
    refine g_region ?_
    refine gl_v rfl (o_assign rfl) ?_
    refine gl_nil ?_
    refine ge_then ?_
    refine g_block ?_
    refine g_loop (ι := Nat) (fun x_ => x_ ≤ r.effs.length ∧ (r.effs.take x_).all effOK = true) (fun x_ => [(5, I64 x_), (4, ptr b4 0), (3, I64 j), (1, ptr b1 0)]) (fun _ => cel b4 57 (rowC r) :: cel b1 54 (staC s) :: M :: R) (fun x_ => r.effs.length - x_) 0 (⟨Nat.zero_le _, rfl⟩) (Keep.cons rfl (Keep.cons rfl (Keep.cons rfl (Keep.cons rfl (Keep.nil))))) (tO) ?_
    rintro q ⟨hq, haq⟩
    replace hq : q ≤ r.effs.length := hq
    replace haq : (r.effs.take q).all effOK = true := haq
    refine g_seq ?_
    refine g_seq ?_
    refine g_region ?_
    refine gl_v rfl (o_move rfl) ?_
    first | refine gl_v rfl (o_fldS rfl) ?_ | refine gl_v rfl (o_fld rfl) ?_
    first | refine gl_v rfl (o_load rfl rfl) ?_ | refine gl_v rfl (o_loadS rfl rfl) ?_ | refine gl_v rfl (o_loadC rfl) ?_
    first | refine gl_v rfl (o_len rfl) ?_ | refine gl_v rfl (o_lenL rfl) ?_
    refine gl_v rfl (o_lss rfl rfl) ?_
    refine gl_nil ?_
    refine ge_then ?_
    refine g_cond rfl (fun hc26 => ?_) (fun hc26 => ?_)
    ·
     replace hc26 := hs_ hc26
     obtain ⟨e, he⟩ : ∃ t, r.effs[q]? = some t := ⟨_, List.getElem?_eq_getElem (show q < r.effs.length by omega)⟩
     have hem := List.mem_of_getElem? he
     refine g_skip ?_
     refine ge_then ?_
     refine g_seq ?_
     refine g_block ?_
     refine g_seq ?_
     refine g_region ?_
     first | refine gl_v rfl (o_fldS rfl) ?_ | refine gl_v rfl (o_fld rfl) ?_
     first | refine gl_v rfl (o_load rfl rfl) ?_ | refine gl_v rfl (o_loadS rfl rfl) ?_ | refine gl_v rfl (o_loadC rfl) ?_
     refine gl_v rfl (o_move rfl) ?_
     refine gl_v rfl (o_idxS rfl rfl (show q < r.effs.length by omega)) ?_
     refine gl_v rfl (o_loadSA rfl (flat_take effC 7 effC_len he) rfl) ?_
     refine gl_c rfl (o_call rfl (Effect3_spec e (hre e hem)) pA) ?_
     rintro _ R ⟨_, ⟨rfl, rfl⟩, rfl⟩
     try simp only [List.cons_append, List.nil_append]
     refine gl_v rfl (o_not rfl) ?_
     refine gl_nil ?_
     refine ge_then ?_
     refine g_cond rfl (fun hc27 => ?_) (fun hc27 => ?_)
     ·
      replace hc27 := hs_ hc27
      have hE : effOK e = false := by simpa using hc27
      refine g_seq ?_
      refine g_region ?_
      refine gl_v rfl (o_assign rfl) ?_
      refine gl_nil ?_
      refine ge_then ?_
      refine g_ret ?_
      refine ge_block_ret ?_
      refine ge_then_ret ?_
      refine ge_then_ret ?_
      refine ge_block_ret ?_
      refine ge_block_ret ?_
      refine ge_then_ret ?_
      refine ge_then_ret ?_
      refine ge_block_ret ?_
      refine ge_then_ret ?_
      refine ret1 (.inl rfl) rfl rfl _ (⟨bv (sta_no2 hrm (row_no2 hem hE)).symm, rfl⟩) (tO)
     ·
      replace hc27 := hs_ hc27
      have hE : effOK e = true := by simpa using hc27
      refine g_skip ?_
      refine ge_block ?_
      refine ge_then ?_
      refine g_region ?_
      refine gl_v rfl (o_move rfl) ?_
      refine gl_v rfl (o_addR ((q + 1 : Nat) : Int) (by rw [wr_i64 (by omega)]; omega) rfl rfl) ?_
      refine gl_v rfl (o_assign rfl) ?_
      refine gl_nil ?_
      refine ge_round (q + 1) ⟨show q + 1 ≤ r.effs.length by omega, all_tk he haq (hE)⟩ (by show r.effs.length - (q + 1) < r.effs.length - q; omega) (Keep.cons rfl (Keep.cons rfl (Keep.cons rfl (Keep.cons rfl (Keep.nil))))) (tO)
    ·
     replace hc26 := hs_ hc26
     obtain rfl : q = r.effs.length := by omega
     rw [List.take_length] at haq
     refine g_exit ?_
     refine ge_then_exit ?_
     refine ge_then_exit ?_
     refine ge_block_exit ?_
     refine ge_block ?_
     refine ge_then ?_
     refine g_region ?_
     refine gl_v rfl (o_move rfl) ?_
     refine gl_v rfl (o_addR ((j + 1 : Nat) : Int) (by rw [wr_i64 (by omega)]; omega) rfl rfl) ?_
     refine gl_v rfl (o_assign rfl) ?_
     refine gl_nil ?_
     refine ge_round (j + 1) ⟨show j + 1 ≤ s.rows.length by omega, all_tk hr haj (row_yes hA haq)⟩ (by show s.rows.length - (j + 1) < s.rows.length - j; omega) (Keep.cons rfl (Keep.cons rfl (Keep.nil))) (tO)
  ·
   replace hc2 := hs_ hc2
   obtain rfl : j = s.rows.length := by omega
   rw [List.take_length] at haj
   refine g_exit ?_
   refine ge_then_exit ?_
   refine ge_then_exit ?_
   refine ge_block_exit ?_
   refine ge_then ?_
   refine g_seq ?_
   refine g_region ?_
   refine gl_v rfl (o_assign rfl) ?_
   refine gl_nil ?_
   refine ge_then ?_
   refine g_ret ?_
   refine ret1 (.inl rfl) rfl rfl _ (⟨bv (sta_yes hnm haj).symm, rfl⟩) (tO)

theorem knd_eq3 (k : Knd) : kndOK k = (!(!isName k.name || !small k.limit || !small k.within) && k.cases.all casOK && k.states.all staOK) := by
  unfold kndOK
  have e1 : ∀ a b c : Bool, (a && b && c) = !(!a || !b || !c) := by decide
  rw [← e1]
theorem knd_no1 {k : Knd} (h : (!isName k.name || !small k.limit || !small k.within) = true) : kndOK k = false := by rw [knd_eq3, h]; rfl
theorem knd_no2 {k : Knd} {c : Cas} (hc : c ∈ k.cases) (h : casOK c = false) : kndOK k = false := by rw [knd_eq3, List.all_eq_false.2 ⟨c, hc, by rw [h]; decide⟩, Bool.and_false]; rfl
theorem knd_no3 {k : Knd} {c : Sta} (hc : c ∈ k.states) (h : staOK c = false) : kndOK k = false := by rw [knd_eq3, List.all_eq_false.2 ⟨c, hc, by rw [h]; decide⟩, Bool.and_false]
theorem knd_yes {k : Knd} (h : (!isName k.name || !small k.limit || !small k.within) = false) (h2 : k.cases.all casOK = true) (h3 : k.states.all staOK = true) : kndOK k = true := by rw [knd_eq3, h, h2, h3]; rfl
theorem cas_no {c : Cas} (h : ((!decide (c.reason = []) && !isName c.reason) || decide (wordD c.do' = [])) = true) : casOK c = false := by rw [casOK_eq, h]; rfl
theorem cas_yes {c : Cas} (h : ((!decide (c.reason = []) && !isName c.reason) || decide (wordD c.do' = [])) = false) : casOK c = true := by rw [casOK_eq, h]; rfl
theorem all_no' {α : Type} {q : α → Bool} {L : List α} {t : α} (h : t ∈ L) (h2 : q t = false) : L.all q = false := by
  rw [List.all_eq_false]; exact ⟨t, h, by rw [h2]; decide⟩

set_option maxRecDepth 8000 in
set_option maxHeartbeats 3000000 in
theorem Writable_spec (M : Assn) (K : List Knd) (a : Option Addr) (c : Nat) (hP : ∀ h, M h → PrgOk h a c K) : FnS Tryz.prog 18 [.agg #[.slice a K.length c]] [M] (fun u Bs => u = .bool (K.all kndOK) ∧ Bs = [M]) := by
 refine fn_body Tryz.func18 rfl rfl rfl ?_
 intro W0 R
 simp only [List.zipIdx_cons, List.zipIdx_nil, List.map_cons, List.map_nil, Nat.zero_add, Nat.reduceAdd, List.cons_append, List.nil_append]
 haveI iK : RdA (.slice a K.length c) M K.length (K.flatMap kndC) := ⟨fun a => (hP _ a).rd.1⟩
 refine g_fact (p := K.length ≤ 140737488351232 ∧ ∀ k ∈ K, (k.name.length ≤ 140737488351232 ∧ k.cases.length ≤ 140737488351232 ∧ k.states.length ≤ 140737488351232) ∧ ∀ c ∈ k.cases, c.reason.length ≤ 140737488351232) (fact_of (A := M) sE fun h a => ?_) ?_
 · have hk := hP _ a
   have h1 := hk.len; unfold ok63 at h1
   refine ⟨by omega, fun k hkm => ?_⟩
   have h2 := (hk.kinds k hkm).name; have h3 := (hk.kinds k hkm).lenc; have h4 := (hk.kinds k hkm).lens; unfold ok63 at h2 h3 h4
   exact ⟨⟨h2, by omega, by omega⟩, fun c hc => (hk.kinds k hkm).cases c hc⟩
 rintro ⟨hn1, hks⟩
 refine g_seq ?_
 refine g_region ?_
 refine gl_n rfl (o_boxA rfl) ?_
 rintro _ _ ⟨b1, rfl, rfl⟩
 refine gl_v rfl (o_assign rfl) ?_
 refine gl_nil ?_
 refine ge_then ?_
 refine g_seq ?_
 refine g_seq ?_
 refine g_region ?_
 refine gl_v rfl (o_assign rfl) ?_
 refine gl_nil ?_
 refine ge_then ?_
 refine g_block ?_
 refine g_loop (ι := Nat) (fun x_ => x_ ≤ K.length ∧ (K.take x_).all kndOK = true) (fun x_ => [(3, I64 x_), (1, ptr b1 0)]) (fun _ => cel b1 25 [.slice a K.length c] :: M :: R) (fun x_ => K.length - x_) 0 (⟨Nat.zero_le _, rfl⟩) (Keep.cons rfl (Keep.cons rfl (Keep.nil))) (tO) ?_
 rintro j ⟨hj, haj⟩
 replace hj : j ≤ K.length := hj
 replace haj : (K.take j).all kndOK = true := haj
 refine g_seq ?_
 refine g_seq ?_
 refine g_region ?_
 refine gl_v rfl (o_move rfl) ?_
 first | refine gl_v rfl (o_fldS rfl) ?_ | refine gl_v rfl (o_fld rfl) ?_
 first | refine gl_v rfl (o_load rfl rfl) ?_ | refine gl_v rfl (o_loadS rfl rfl) ?_ | refine gl_v rfl (o_loadC rfl) ?_
 first | refine gl_v rfl (o_len rfl) ?_ | refine gl_v rfl (o_lenL rfl) ?_
 refine gl_v rfl (o_lss rfl rfl) ?_
 refine gl_nil ?_
 refine ge_then ?_
 refine g_cond rfl (fun hc1 => ?_) (fun hc1 => ?_)
 ·
  replace hc1 := hs_ hc1
  obtain ⟨k, hk⟩ : ∃ t, K[j]? = some t := ⟨_, List.getElem?_eq_getElem (show j < K.length by omega)⟩
  have hkm := List.mem_of_getElem? hk
  obtain ⟨⟨hk1, hk2, hk3⟩, hcr⟩ := hks k hkm
  haveI iC : RdA (.slice k.ca k.cases.length k.cc) M k.cases.length (k.cases.flatMap casC) := ⟨fun a => ((hP _ a).kinds k hkm).rdc.1⟩
  haveI iS : RdA (.slice k.sa k.states.length k.sc) M k.states.length (k.states.flatMap staC) := ⟨fun a => ((hP _ a).kinds k hkm).rds.1⟩
  refine g_skip ?_
  refine ge_then ?_
  refine g_seq ?_
  refine g_block ?_
  refine g_seq ?_
  refine g_region ?_
  first | refine gl_v rfl (o_fldS rfl) ?_ | refine gl_v rfl (o_fld rfl) ?_
  first | refine gl_v rfl (o_load rfl rfl) ?_ | refine gl_v rfl (o_loadS rfl rfl) ?_ | refine gl_v rfl (o_loadC rfl) ?_
  refine gl_v rfl (o_move rfl) ?_
  refine gl_v rfl (o_idxS rfl rfl (show j < K.length by omega)) ?_
  refine gl_v rfl (o_loadSA rfl (flat_take kndC 5 kndC_len hk) rfl) ?_
  refine gl_n rfl (o_alloc) ?_
  rintro _ _ ⟨b4, rfl, rfl⟩
  first | refine gl_u (o_storeSA rfl rfl rfl rfl (by simp; omega) (by simp)) ?_ | refine gl_u (o_storeA rfl rfl rfl rfl rfl) ?_
  refine gl_nil ?_
  refine ge_then ?_
  refine g_seq ?_
  refine g_seq ?_
  refine g_region ?_
  first | refine gl_v rfl (o_fldS rfl) ?_ | refine gl_v rfl (o_fld rfl) ?_
  first | refine gl_v rfl (o_load rfl rfl) ?_ | refine gl_v rfl (o_loadS rfl rfl) ?_ | refine gl_v rfl (o_loadC rfl) ?_
  refine gl_c rfl (o_call rfl (RName_spec (k.name) (by omega)) pA) ?_
  rintro _ R ⟨_, ⟨rfl, rfl⟩, rfl⟩
  try simp only [List.cons_append, List.nil_append]
  refine gl_v rfl (o_not rfl) ?_
  refine gl_v rfl (o_move rfl) ?_
  refine gl_join (d := 35) 11 (.bool (!isName k.name || !small k.limit || !small k.within)) ?_ (fun jk35 => ?_)
  rotate_left
  ·
   refine gl_g rfl rfl (fun hc2 => ?_) (fun hc2 => ?_) rfl
   ·
    have hc2' := hc2
    replace hc2' := hs_ hc2'
    first | refine gl_v rfl (o_fldS rfl) ?_ | refine gl_v rfl (o_fld rfl) ?_
    refine gl_gT rfl rfl hc2 ?_
    first | refine gl_v rfl (o_load rfl rfl) ?_ | refine gl_v rfl (o_loadS rfl rfl) ?_ | refine gl_v rfl (o_loadC rfl) ?_
    refine gl_gT rfl rfl hc2 ?_
    refine gl_c rfl (o_call rfl (small_spec k.limit) pA) ?_
    rintro _ R ⟨_, ⟨rfl, rfl⟩, rfl⟩
    try simp only [List.cons_append, List.nil_append]
    refine gl_gT rfl rfl hc2 ?_
    refine gl_v rfl (o_not rfl) ?_
    refine gl_v rfl (o_pickF hc2 rfl rfl) ?_
    refine gl_v rfl (o_move rfl) ?_
    refine gl_g rfl rfl (fun hc3 => ?_) (fun hc3 => ?_) rfl
    ·
     have hc3' := hc3
     replace hc3' := hs_ hc3'
     first | refine gl_v rfl (o_fldS rfl) ?_ | refine gl_v rfl (o_fld rfl) ?_
     refine gl_gT rfl rfl hc3 ?_
     first | refine gl_v rfl (o_load rfl rfl) ?_ | refine gl_v rfl (o_loadS rfl rfl) ?_ | refine gl_v rfl (o_loadC rfl) ?_
     refine gl_gT rfl rfl hc3 ?_
     refine gl_c rfl (o_call rfl (small_spec k.within) pA) ?_
     rintro _ R ⟨_, ⟨rfl, rfl⟩, rfl⟩
     try simp only [List.cons_append, List.nil_append]
     refine gl_gT rfl rfl hc3 ?_
     refine gl_v rfl (o_not rfl) ?_
     refine gl_v rfl (o_pickF hc3 rfl rfl) ?_
     first | exact jk35 _ (KeepS.top (by repeat (first | exact KeepS.refl _ | refine KeepS.push ?_ rfl)) (jval (by first | rfl | (simp only [hc2, hc3, Bool.not_true, Bool.not_false, Bool.false_and, Bool.true_and, Bool.true_or, Bool.false_or]; done) | (simp [hc2, hc3, ]; done) | simp_all))) | exact gl_imp (tO) (jk35 _ (KeepS.top (by repeat (first | exact KeepS.refl _ | refine KeepS.push ?_ rfl)) (jval (by first | rfl | (simp only [hc2, hc3, Bool.not_true, Bool.not_false, Bool.false_and, Bool.true_and, Bool.true_or, Bool.false_or]; done) | (simp [hc2, hc3, ]; done) | simp_all))))
    ·
     have hc3' := hc3
     replace hc3' := hs_ hc3'
     simp only [putO]
     refine gl_gF rfl rfl hc3 rfl ?_
     refine gl_gF rfl rfl hc3 rfl ?_
     refine gl_gF rfl rfl hc3 rfl ?_
     refine gl_v rfl (o_pickT hc3 rfl rfl) ?_
     first | exact jk35 _ (KeepS.top (by repeat (first | exact KeepS.refl _ | refine KeepS.push ?_ rfl)) (jval (by first | rfl | (simp only [hc2, hc3, Bool.not_true, Bool.not_false, Bool.false_and, Bool.true_and, Bool.true_or, Bool.false_or]; done) | (simp [hc2, hc3, ]; done) | simp_all))) | exact gl_imp (tO) (jk35 _ (KeepS.top (by repeat (first | exact KeepS.refl _ | refine KeepS.push ?_ rfl)) (jval (by first | rfl | (simp only [hc2, hc3, Bool.not_true, Bool.not_false, Bool.false_and, Bool.true_and, Bool.true_or, Bool.false_or]; done) | (simp [hc2, hc3, ]; done) | simp_all))))
   ·
    have hc2' := hc2
    replace hc2' := hs_ hc2'
    simp only [putO]
    refine gl_gF rfl rfl hc2 rfl ?_
    refine gl_gF rfl rfl hc2 rfl ?_
    refine gl_gF rfl rfl hc2 rfl ?_
    refine gl_v rfl (o_pickT hc2 rfl rfl) ?_
    refine gl_v rfl (o_move rfl) ?_
    refine gl_gF rfl rfl rfl rfl ?_
    refine gl_gF rfl rfl rfl rfl ?_
    refine gl_gF rfl rfl rfl rfl ?_
    refine gl_gF rfl rfl rfl rfl ?_
    refine gl_v rfl (o_pickT rfl rfl rfl) ?_
    first | exact jk35 _ (KeepS.top (by repeat (first | exact KeepS.refl _ | refine KeepS.push ?_ rfl)) (jval (by first | rfl | (simp only [hc2, Bool.not_true, Bool.not_false, Bool.false_and, Bool.true_and, Bool.true_or, Bool.false_or]; done) | (simp [hc2, ]; done) | simp_all))) | exact gl_imp (tO) (jk35 _ (KeepS.top (by repeat (first | exact KeepS.refl _ | refine KeepS.push ?_ rfl)) (jval (by first | rfl | (simp only [hc2, Bool.not_true, Bool.not_false, Bool.false_and, Bool.true_and, Bool.true_or, Bool.false_or]; done) | (simp [hc2, ]; done) | simp_all))))
  refine gl_nil ?_
  refine ge_then ?_
  refine g_cond rfl (fun hc4 => ?_) (fun hc4 => ?_)
  ·
   replace hc4 := hs_ hc4
   have hA := hc4
   refine g_seq ?_
   refine g_region ?_
   refine gl_v rfl (o_assign rfl) ?_
   refine gl_nil ?_
   refine ge_then ?_
   refine g_ret ?_
   refine ge_then_ret ?_
   refine ge_block_ret ?_
   refine ge_then_ret ?_
   refine ge_then_ret ?_
   refine ge_block_ret ?_
   refine ge_then_ret ?_
   refine ret1 (.inl rfl) rfl rfl _ (⟨bv (all_no' hkm (knd_no1 hA)).symm, rfl⟩) (tO)
  ·
   replace hc4 := hs_ hc4
   have hA := hc4
   refine g_skip ?_
   refine ge_then ?_
   refine g_seq ?_
   refine g_seq ?_
   refine g_region ?_
   refine gl_v rfl (o_assign rfl) ?_
   refine gl_nil ?_
   refine ge_then ?_
   refine g_block ?_
   refine g_loop (ι := Nat) (fun x_ => x_ ≤ k.cases.length ∧ (k.cases.take x_).all casOK = true) (fun x_ => [(5, I64 x_), (4, ptr b4 0), (3, I64 j), (1, ptr b1 0)]) (fun _ => cel b4 51 (kndC k) :: cel b1 25 [.slice a K.length c] :: M :: R) (fun x_ => k.cases.length - x_) 0 (⟨Nat.zero_le _, rfl⟩) (Keep.cons rfl (Keep.cons rfl (Keep.cons rfl (Keep.cons rfl (Keep.nil))))) (tO) ?_
   rintro q ⟨hq, haq⟩
   replace hq : q ≤ k.cases.length := hq
   replace haq : (k.cases.take q).all casOK = true := haq
   refine g_seq ?_
   refine g_seq ?_
   refine g_region ?_
   refine gl_v rfl (o_move rfl) ?_
   first | refine gl_v rfl (o_fldS rfl) ?_ | refine gl_v rfl (o_fld rfl) ?_
   first | refine gl_v rfl (o_load rfl rfl) ?_ | refine gl_v rfl (o_loadS rfl rfl) ?_ | refine gl_v rfl (o_loadC rfl) ?_
   first | refine gl_v rfl (o_len rfl) ?_ | refine gl_v rfl (o_lenL rfl) ?_
   refine gl_v rfl (o_lss rfl rfl) ?_
   refine gl_nil ?_
   refine ge_then ?_
   refine g_cond rfl (fun hc5 => ?_) (fun hc5 => ?_)
   ·
    replace hc5 := hs_ hc5
    obtain ⟨c1, hc⟩ : ∃ t, k.cases[q]? = some t := ⟨_, List.getElem?_eq_getElem (show q < k.cases.length by omega)⟩
    have hcm := List.mem_of_getElem? hc
    refine g_skip ?_
    refine ge_then ?_
    refine g_seq ?_
    refine g_block ?_
    refine g_seq ?_
    refine g_region ?_
    first | refine gl_v rfl (o_fldS rfl) ?_ | refine gl_v rfl (o_fld rfl) ?_
    first | refine gl_v rfl (o_load rfl rfl) ?_ | refine gl_v rfl (o_loadS rfl rfl) ?_ | refine gl_v rfl (o_loadC rfl) ?_
    refine gl_v rfl (o_move rfl) ?_
    refine gl_v rfl (o_idxS rfl rfl (show q < k.cases.length by omega)) ?_
    refine gl_v rfl (o_loadSA rfl (flat_take casC 2 casC_len hc) rfl) ?_
    refine gl_n rfl (o_alloc) ?_
    rintro _ _ ⟨b6, rfl, rfl⟩
    first | refine gl_u (o_storeSA rfl rfl rfl rfl (by simp; omega) (by simp)) ?_ | refine gl_u (o_storeA rfl rfl rfl rfl rfl) ?_
    refine gl_nil ?_
    refine ge_then ?_
    refine g_seq ?_
    refine g_region ?_
    first | refine gl_v rfl (o_fldS rfl) ?_ | refine gl_v rfl (o_fld rfl) ?_
    first | refine gl_v rfl (o_load rfl rfl) ?_ | refine gl_v rfl (o_loadS rfl rfl) ?_ | refine gl_v rfl (o_loadC rfl) ?_
    refine gl_v rfl (o_neqs rfl rfl) ?_
    refine gl_v rfl (o_move rfl) ?_
    refine gl_join (d := 62) 11 (.bool ((!decide (c1.reason = []) && !isName c1.reason) || decide (wordD c1.do' = []))) ?_ (fun jk62 => ?_)
    rotate_left
    ·
     refine gl_g rfl rfl (fun hc6 => ?_) (fun hc6 => ?_) rfl
     ·
      have hc6' := hc6
      replace hc6' := hs_ hc6'
      first | refine gl_v rfl (o_fldS rfl) ?_ | refine gl_v rfl (o_fld rfl) ?_
      refine gl_gT rfl rfl hc6 ?_
      first | refine gl_v rfl (o_load rfl rfl) ?_ | refine gl_v rfl (o_loadS rfl rfl) ?_ | refine gl_v rfl (o_loadC rfl) ?_
      refine gl_gT rfl rfl hc6 ?_
      refine gl_c rfl (o_call rfl (RName_spec (c1.reason) (by have := hcr c1 hcm; omega)) pA) ?_
      rintro _ R ⟨_, ⟨rfl, rfl⟩, rfl⟩
      try simp only [List.cons_append, List.nil_append]
      refine gl_gT rfl rfl hc6 ?_
      refine gl_v rfl (o_not rfl) ?_
      refine gl_v rfl (o_pickT hc6 rfl rfl) ?_
      refine gl_v rfl (o_move rfl) ?_
      refine gl_g rfl rfl (fun hc7 => ?_) (fun hc7 => ?_) rfl
      ·
       have hc7' := hc7
       replace hc7' := hs_ hc7'
       first | refine gl_v rfl (o_fldS rfl) ?_ | refine gl_v rfl (o_fld rfl) ?_
       refine gl_gT rfl rfl hc7 ?_
       first | refine gl_v rfl (o_load rfl rfl) ?_ | refine gl_v rfl (o_loadS rfl rfl) ?_ | refine gl_v rfl (o_loadC rfl) ?_
       refine gl_gT rfl rfl hc7 ?_
       refine gl_c rfl (o_call rfl (Word_spec c1.do') pA) ?_
       rintro _ R ⟨_, ⟨rfl, rfl⟩, rfl⟩
       try simp only [List.cons_append, List.nil_append]
       refine gl_gT rfl rfl hc7 ?_
       refine gl_v rfl (o_eqls rfl rfl) ?_
       refine gl_v rfl (o_pickF hc7 rfl rfl) ?_
       first | exact jk62 _ (KeepS.top (by repeat (first | exact KeepS.refl _ | refine KeepS.push ?_ rfl)) (jval (by first | rfl | (simp only [hc6, hc7, Bool.not_true, Bool.not_false, Bool.false_and, Bool.true_and, Bool.true_or, Bool.false_or]; done) | (simp [hc6, hc7, ]; done) | simp_all))) | exact gl_imp (tO) (jk62 _ (KeepS.top (by repeat (first | exact KeepS.refl _ | refine KeepS.push ?_ rfl)) (jval (by first | rfl | (simp only [hc6, hc7, Bool.not_true, Bool.not_false, Bool.false_and, Bool.true_and, Bool.true_or, Bool.false_or]; done) | (simp [hc6, hc7, ]; done) | simp_all))))
      ·
       have hc7' := hc7
       replace hc7' := hs_ hc7'
       simp only [putO]
       refine gl_gF rfl rfl hc7 rfl ?_
       refine gl_gF rfl rfl hc7 rfl ?_
       refine gl_gF rfl rfl hc7 rfl ?_
       refine gl_v rfl (o_pickT hc7 rfl rfl) ?_
       first | exact jk62 _ (KeepS.top (by repeat (first | exact KeepS.refl _ | refine KeepS.push ?_ rfl)) (jval (by first | rfl | (simp only [hc6, hc7, Bool.not_true, Bool.not_false, Bool.false_and, Bool.true_and, Bool.true_or, Bool.false_or]; done) | (simp [hc6, hc7, ]; done) | simp_all))) | exact gl_imp (tO) (jk62 _ (KeepS.top (by repeat (first | exact KeepS.refl _ | refine KeepS.push ?_ rfl)) (jval (by first | rfl | (simp only [hc6, hc7, Bool.not_true, Bool.not_false, Bool.false_and, Bool.true_and, Bool.true_or, Bool.false_or]; done) | (simp [hc6, hc7, ]; done) | simp_all))))
     ·
      have hc6' := hc6
      replace hc6' := hs_ hc6'
      simp only [putO]
      refine gl_gF rfl rfl hc6 rfl ?_
      refine gl_gF rfl rfl hc6 rfl ?_
      refine gl_gF rfl rfl hc6 rfl ?_
      refine gl_v rfl (o_pickF hc6 rfl rfl) ?_
      refine gl_v rfl (o_move rfl) ?_
      refine gl_gT rfl rfl rfl ?_
      first | refine gl_v rfl (o_fldS rfl) ?_ | refine gl_v rfl (o_fld rfl) ?_
      refine gl_gT rfl rfl rfl ?_
      first | refine gl_v rfl (o_load rfl rfl) ?_ | refine gl_v rfl (o_loadS rfl rfl) ?_ | refine gl_v rfl (o_loadC rfl) ?_
      refine gl_gT rfl rfl rfl ?_
      refine gl_c rfl (o_call rfl (Word_spec c1.do') pA) ?_
      rintro _ R ⟨_, ⟨rfl, rfl⟩, rfl⟩
      try simp only [List.cons_append, List.nil_append]
      refine gl_gT rfl rfl rfl ?_
      refine gl_v rfl (o_eqls rfl rfl) ?_
      refine gl_v rfl (o_pickF rfl rfl rfl) ?_
      first | exact jk62 _ (KeepS.top (by repeat (first | exact KeepS.refl _ | refine KeepS.push ?_ rfl)) (jval (by first | rfl | (simp only [hc6, Bool.not_true, Bool.not_false, Bool.false_and, Bool.true_and, Bool.true_or, Bool.false_or]; done) | (simp [hc6, ]; done) | simp_all))) | exact gl_imp (tO) (jk62 _ (KeepS.top (by repeat (first | exact KeepS.refl _ | refine KeepS.push ?_ rfl)) (jval (by first | rfl | (simp only [hc6, Bool.not_true, Bool.not_false, Bool.false_and, Bool.true_and, Bool.true_or, Bool.false_or]; done) | (simp [hc6, ]; done) | simp_all))))
    refine gl_nil ?_
    refine ge_then ?_
    refine g_cond rfl (fun hc8 => ?_) (fun hc8 => ?_)
    ·
     replace hc8 := hs_ hc8
     have hB := hc8
     refine g_seq ?_
     refine g_region ?_
     refine gl_v rfl (o_assign rfl) ?_
     refine gl_nil ?_
     refine ge_then ?_
     refine g_ret ?_
     refine ge_block_ret ?_
     refine ge_then_ret ?_
     refine ge_then_ret ?_
     refine ge_block_ret ?_
     refine ge_then_ret ?_
     refine ge_block_ret ?_
     refine ge_then_ret ?_
     refine ge_then_ret ?_
     refine ge_block_ret ?_
     refine ge_then_ret ?_
     refine ret1 (.inl rfl) rfl rfl _ (⟨bv (all_no' hkm (knd_no2 hcm (cas_no hB))).symm, rfl⟩) (tO)
    ·
     replace hc8 := hs_ hc8
     have hB := hc8
     refine g_skip ?_
     refine ge_block ?_
     refine ge_then ?_
     refine g_region ?_
     refine gl_v rfl (o_move rfl) ?_
     refine gl_v rfl (o_addR ((q + 1 : Nat) : Int) (by rw [wr_i64 (by omega)]; omega) rfl rfl) ?_
     refine gl_v rfl (o_assign rfl) ?_
     refine gl_nil ?_
     refine ge_round (q + 1) ⟨show q + 1 ≤ k.cases.length by omega, all_tk hc haq (cas_yes hB)⟩ (by show k.cases.length - (q + 1) < k.cases.length - q; omega) (Keep.cons rfl (Keep.cons rfl (Keep.cons rfl (Keep.cons rfl (Keep.nil))))) (tO)
   ·
    replace hc5 := hs_ hc5
    obtain rfl : q = k.cases.length := by omega
    rw [List.take_length] at haq
    have hcs := haq
    refine g_exit ?_
    refine ge_then_exit ?_
    refine ge_then_exit ?_
    refine ge_block_exit ?_
    refine ge_then ?_
    refine g_seq ?_
    refine g_region ?_
    refine gl_v rfl (o_assign rfl) ?_
    refine gl_nil ?_
    refine ge_then ?_
    refine g_block ?_
    refine g_loop (ι := Nat) (fun x_ => x_ ≤ k.states.length ∧ (k.states.take x_).all staOK = true) (fun x_ => [(7, I64 x_), (4, ptr b4 0), (3, I64 j), (1, ptr b1 0)]) (fun _ => cel b4 51 (kndC k) :: cel b1 25 [.slice a K.length c] :: M :: R) (fun x_ => k.states.length - x_) 0 (⟨Nat.zero_le _, rfl⟩) (Keep.cons rfl (Keep.cons rfl (Keep.cons rfl (Keep.cons rfl (Keep.nil))))) (tO) ?_
    rintro q ⟨hq, haq⟩
    replace hq : q ≤ k.states.length := hq
    replace haq : (k.states.take q).all staOK = true := haq
    refine g_seq ?_
    refine g_seq ?_
    refine g_region ?_
    refine gl_v rfl (o_move rfl) ?_
    first | refine gl_v rfl (o_fldS rfl) ?_ | refine gl_v rfl (o_fld rfl) ?_
    first | refine gl_v rfl (o_load rfl rfl) ?_ | refine gl_v rfl (o_loadS rfl rfl) ?_ | refine gl_v rfl (o_loadC rfl) ?_
    first | refine gl_v rfl (o_len rfl) ?_ | refine gl_v rfl (o_lenL rfl) ?_
    refine gl_v rfl (o_lss rfl rfl) ?_
    refine gl_nil ?_
    refine ge_then ?_
    refine g_cond rfl (fun hc9 => ?_) (fun hc9 => ?_)
    ·
     replace hc9 := hs_ hc9
     obtain ⟨s, hs⟩ : ∃ t, k.states[q]? = some t := ⟨_, List.getElem?_eq_getElem (show q < k.states.length by omega)⟩
     have hsm := List.mem_of_getElem? hs
     refine g_skip ?_
     refine ge_then ?_
     refine g_seq ?_
     refine g_block ?_
     refine g_seq ?_
     refine g_region ?_
     first | refine gl_v rfl (o_fldS rfl) ?_ | refine gl_v rfl (o_fld rfl) ?_
     first | refine gl_v rfl (o_load rfl rfl) ?_ | refine gl_v rfl (o_loadS rfl rfl) ?_ | refine gl_v rfl (o_loadC rfl) ?_
     refine gl_v rfl (o_move rfl) ?_
     refine gl_v rfl (o_idxS rfl rfl (show q < k.states.length by omega)) ?_
     refine gl_v rfl (o_loadSA rfl (flat_take staC 2 staC_len hs) rfl) ?_
     refine gl_c rfl (o_call rfl (state3_spec M s (fun h a => ((hP h a).kinds k hkm).states s hsm)) pA) ?_
     rintro _ R ⟨_, ⟨rfl, rfl⟩, rfl⟩
     try simp only [List.cons_append, List.nil_append]
     refine gl_v rfl (o_not rfl) ?_
     refine gl_nil ?_
     refine ge_then ?_
     refine g_cond rfl (fun hc10 => ?_) (fun hc10 => ?_)
     ·
      replace hc10 := hs_ hc10
      have hE : staOK s = false := by simpa using hc10
      refine g_seq ?_
      refine g_region ?_
      refine gl_v rfl (o_assign rfl) ?_
      refine gl_nil ?_
      refine ge_then ?_
      refine g_ret ?_
      refine ge_block_ret ?_
      refine ge_then_ret ?_
      refine ge_then_ret ?_
      refine ge_block_ret ?_
      refine ge_block_ret ?_
      refine ge_then_ret ?_
      refine ge_then_ret ?_
      refine ge_block_ret ?_
      refine ge_then_ret ?_
      refine ret1 (.inl rfl) rfl rfl _ (⟨bv (all_no' hkm (knd_no3 hsm hE)).symm, rfl⟩) (tO)
     ·
      replace hc10 := hs_ hc10
      have hE : staOK s = true := by simpa using hc10
      refine g_skip ?_
      refine ge_block ?_
      refine ge_then ?_
      refine g_region ?_
      refine gl_v rfl (o_move rfl) ?_
      refine gl_v rfl (o_addR ((q + 1 : Nat) : Int) (by rw [wr_i64 (by omega)]; omega) rfl rfl) ?_
      refine gl_v rfl (o_assign rfl) ?_
      refine gl_nil ?_
      refine ge_round (q + 1) ⟨show q + 1 ≤ k.states.length by omega, all_tk hs haq (hE)⟩ (by show k.states.length - (q + 1) < k.states.length - q; omega) (Keep.cons rfl (Keep.cons rfl (Keep.cons rfl (Keep.cons rfl (Keep.nil))))) (tO)
    ·
     replace hc9 := hs_ hc9
     obtain rfl : q = k.states.length := by omega
     rw [List.take_length] at haq
     refine g_exit ?_
     refine ge_then_exit ?_
     refine ge_then_exit ?_
     refine ge_block_exit ?_
     refine ge_block ?_
     refine ge_then ?_
     refine g_region ?_
     refine gl_v rfl (o_move rfl) ?_
     refine gl_v rfl (o_addR ((j + 1 : Nat) : Int) (by rw [wr_i64 (by omega)]; omega) rfl rfl) ?_
     refine gl_v rfl (o_assign rfl) ?_
     refine gl_nil ?_
     refine ge_round (j + 1) ⟨show j + 1 ≤ K.length by omega, all_tk hk haj (knd_yes hA hcs haq)⟩ (by show K.length - (j + 1) < K.length - j; omega) (Keep.cons rfl (Keep.cons rfl (Keep.nil))) (tO)
 ·
  replace hc1 := hs_ hc1
  obtain rfl : j = K.length := by omega
  rw [List.take_length] at haj
  refine g_exit ?_
  refine ge_then_exit ?_
  refine ge_then_exit ?_
  refine ge_block_exit ?_
  refine ge_then ?_
  refine g_seq ?_
  refine g_region ?_
  refine gl_v rfl (o_assign rfl) ?_
  refine gl_nil ?_
  refine ge_then ?_
  refine g_ret ?_
  refine ret1 (.inl rfl) rfl rfl _ (⟨bv haj.symm, rfl⟩) (tO)

end Go.Proofs.YtgkjnilckmminaaGreatDoor.L
