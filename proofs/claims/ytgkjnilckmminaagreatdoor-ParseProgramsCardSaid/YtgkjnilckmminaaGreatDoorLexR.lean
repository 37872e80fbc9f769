/-
  Lex: what the reference's functions compute. Own work, printed in part by a program of its own.
-/
import Derived.Test.YtgkjnilckmminaaGreatDoorLexC
set_option linter.unusedSimpArgs false
set_option linter.unusedVariables false
set_option linter.unusedSectionVars false
namespace Go.Proofs.YtgkjnilckmminaaGreatDoor.L
open Go.L Go.L.Lx
attribute [local irreducible] isLet isDig isIn isBlank isSign notNl


def isc (c : UInt8) : Nat := if isBlank c then 1 else if isLet c then 2 else if isDig c then 3 else if c.toNat = 95 then 4 else if isSign c then 5 else if c.toNat = 35 then 6 else 0
theorem isc_let (c : UInt8) : isc c = 2 ↔ isLet c = true := by
  unfold isc isBlank isLet isDig isSign; simp only [decide_eq_true_eq]; (repeat' split) <;> omega
theorem isc_dig (c : UInt8) : isc c = 3 ↔ isDig c = true := by
  unfold isc isBlank isLet isDig isSign; simp only [decide_eq_true_eq]; (repeat' split) <;> omega
theorem isc_blank (c : UInt8) : isc c = 1 ↔ isBlank c = true := by
  unfold isc isBlank isLet isDig isSign; simp only [decide_eq_true_eq]; (repeat' split) <;> omega
theorem isc_hash (c : UInt8) : isc c = 6 ↔ c.toNat = 35 := by
  unfold isc isBlank isLet isDig isSign; simp only [decide_eq_true_eq]; (repeat' split) <;> omega
theorem isc_sign (c : UInt8) : isc c = 5 ↔ isSign c = true := by
  unfold isc isBlank isLet isDig isSign; simp only [decide_eq_true_eq]; (repeat' split) <;> omega
theorem isc_in (c : UInt8) : isIn c = true ↔ isc c = 2 ∨ isc c = 3 ∨ isc c = 4 := by
  unfold isc isBlank isLet isDig isSign isIn; simp only [decide_eq_true_eq]; (repeat' split) <;> omega
theorem in_f {c : UInt8} (h : ¬ (isc c = 2 ∨ isc c = 3 ∨ isc c = 4)) : isIn c = false := by
  cases hi : isIn c with
  | false => rfl
  | true => exact absurd ((isc_in c).1 hi) h
theorem dig_f {c : UInt8} (h : isc c ≠ 3) : isDig c = false := by
  cases hi : isDig c with
  | false => rfl
  | true => exact absurd ((isc_dig c).2 hi) h
theorem let_f {c : UInt8} (h : isc c ≠ 2) : isLet c = false := by
  cases hi : isLet c with
  | false => rfl
  | true => exact absurd ((isc_let c).2 hi) h
theorem blank_f' {c : UInt8} (h : isc c ≠ 1) : isBlank c = false := by
  cases hi : isBlank c with
  | false => rfl
  | true => exact absurd ((isc_blank c).2 hi) h
theorem sign_f {c : UInt8} (h : isc c ≠ 5) : isSign c = false := by
  cases hi : isSign c with
  | false => rfl
  | true => exact absurd ((isc_sign c).2 hi) h
theorem hash_f {c : UInt8} (h : isc c ≠ 6) : c.toNat ≠ 35 := fun e => h ((isc_hash c).2 e)
/-- what the reference answers -/
def rv : Res → Option Addr → Nat → Value
  | .ok T, a, c => .tuple #[.slice a T.length c, I64 0, I64 (-1)]
  | .error e, _, _ => .tuple #[.slice none 0 0, I64 e.1, I64 e.2]
def ra : Res → Option Addr → Nat → List Assn
  | .ok T, a, c => [tksA a c T]
  | .error _, _, _ => []
theorem pre_errE (X : List Tk) (e : Err) : pre X (.error e) = .error e := rfl
/-- one step of the reference -/
theorem step_let {l : By} {x : Nat} {c : UInt8} (hg : l[x]? = some c) (h : isLet c = true) (hs : spn isIn (l.drop x) ≤ 16) : lex x (l.drop x) = pre [⟨1, (l.drop x).take (spn isIn (l.drop x)), 0, x⟩] (lex (x + spn isIn (l.drop x)) (l.drop (x + spn isIn (l.drop x)))) := by
  obtain ⟨hb, h35⟩ := blank_no (.inl h)
  have hd := drop_at hg
  have hlen : ((l.drop x).take (spn isIn (l.drop x))).length = spn isIn (l.drop x) := by rw [List.length_take]; exact Nat.min_eq_left (spn_le _ _)
  rw [hd] at hs hlen ⊢
  have ht : tok x (c :: l.drop (x + 1)) = .ok ⟨1, (c :: l.drop (x + 1)).take (spn isIn (c :: l.drop (x + 1))), 0, x⟩ := by rw [tok_eq, if_pos h, if_neg (by omega)]
  rw [lex_ok' hb h35 ht]
  simp only [hlen]
  rw [drop_tok hd]
theorem step_letE {l : By} {x : Nat} {c : UInt8} (hg : l[x]? = some c) (h : isLet c = true) (hs : 16 < spn isIn (l.drop x)) : lex x (l.drop x) = .error (22, x) := by
  obtain ⟨hb, h35⟩ := blank_no (.inl h)
  rw [drop_at hg] at hs ⊢
  exact lex_err hb h35 (by rw [tok_eq, if_pos h, if_pos hs])
theorem step_dig {l : By} {x : Nat} {c : UInt8} (hg : l[x]? = some c) (h : isDig c = true) (hn : num ((l.drop x).take (spn isDig (l.drop x))) ≤ 65535) (hx : nextIn (l.drop (x + spn isDig (l.drop x))) = false) :
    lex x (l.drop x) = pre [⟨2, (l.drop x).take (spn isDig (l.drop x)), num ((l.drop x).take (spn isDig (l.drop x))), x⟩] (lex (x + spn isDig (l.drop x)) (l.drop (x + spn isDig (l.drop x)))) := by
  obtain ⟨hb, h35⟩ := blank_no (.inr (.inl h))
  have hd := drop_at hg
  have hlen : ((l.drop x).take (spn isDig (l.drop x))).length = spn isDig (l.drop x) := by rw [List.length_take]; exact Nat.min_eq_left (spn_le _ _)
  rw [← List.drop_drop] at hx
  rw [hd] at hn hx hlen ⊢
  have ht : tok x (c :: l.drop (x + 1)) = .ok ⟨2, (c :: l.drop (x + 1)).take (spn isDig (c :: l.drop (x + 1))), num ((c :: l.drop (x + 1)).take (spn isDig (c :: l.drop (x + 1)))), x⟩ := by rw [tok_eq, if_neg (by rw [dig_let h]; decide), if_pos h, if_neg (by rw [hx]; simp; omega)]
  rw [lex_ok' hb h35 ht]
  simp only [hlen]
  rw [drop_tok hd]
theorem step_digE {l : By} {x : Nat} {c : UInt8} (hg : l[x]? = some c) (h : isDig c = true) (hn : 65535 < num ((l.drop x).take (spn isDig (l.drop x))) ∨ nextIn (l.drop (x + spn isDig (l.drop x))) = true) : lex x (l.drop x) = .error (21, x) := by
  obtain ⟨hb, h35⟩ := blank_no (.inr (.inl h))
  rw [← List.drop_drop, drop_at hg] at hn
  rw [drop_at hg]
  exact lex_err hb h35 (by rw [tok_eq, if_neg (by rw [dig_let h]; decide), if_pos h, if_pos hn])
theorem step_sgn {l : By} {x : Nat} {c : UInt8} (hg : l[x]? = some c) (h : isSign c = true) : lex x (l.drop x) = pre [⟨3, [c], 0, x⟩] (lex (x + 1) (l.drop (x + 1))) := by
  obtain ⟨hb, h35⟩ := blank_no (.inr (.inr h))
  have h1 : isLet c = false := by unfold isSign at h; unfold isLet; simp only [decide_eq_true_eq, decide_eq_false_iff_not] at *; omega
  have h2 : isDig c = false := by unfold isSign at h; unfold isDig; simp only [decide_eq_true_eq, decide_eq_false_iff_not] at *; omega
  rw [drop_at hg]
  rw [lex_ok' hb h35 (by rw [tok_eq, if_neg (by rw [h1]; decide), if_neg (by rw [h2]; decide), if_pos h])]
  rfl
theorem step_bad {l : By} {x : Nat} {c : UInt8} (hg : l[x]? = some c) (hb : isBlank c = false) (h35 : c.toNat ≠ 35) (h1 : isLet c = false) (h2 : isDig c = false) (h3 : isSign c = false) : lex x (l.drop x) = .error (20, x) := by
  rw [drop_at hg]
  exact lex_err hb h35 (by rw [tok_eq, if_neg (by rw [h1]; decide), if_neg (by rw [h2]; decide), if_neg (by rw [h3]; decide)])
theorem sub_take (l : By) (x k : Nat) : (l.take (x + k)).drop x = (l.drop x).take k := by rw [List.drop_take]; congr 1; omega
theorem sub_one {l : By} {x : Nat} {c : UInt8} (hg : l[x]? = some c) : (l.take (x + 1)).drop x = [c] := by rw [sub_take, drop_at hg]; rfl
theorem take_snoc {l : By} {x y : Nat} {d : UInt8} (hxy : x ≤ y) (hd : l[y]? = some d) : (l.drop x).take (y + 1 - x) = (l.drop x).take (y - x) ++ [d] := by
  have h1 : (l.drop x)[y - x]? = some d := by rw [List.getElem?_drop, show x + (y - x) = y by omega]; exact hd
  obtain ⟨h2, h3⟩ := List.getElem?_eq_some_iff.1 h1
  rw [show y + 1 - x = (y - x) + 1 by omega, List.take_succ_eq_append_getElem h2, h3]
theorem next_is {l : By} {y : Nat} {d : UInt8} (hd : l[y]? = some d) : nextIn (l.drop y) = isIn d := by rw [drop_at hd]; rfl
theorem next_no {l : By} {y : Nat} (h : l.length ≤ y) : nextIn (l.drop y) = false := by rw [List.drop_eq_nil_of_le h]; rfl
theorem pre_step {X Y : List Tk} {r q R : Res} (h : pre X r = R) (e : r = pre Y q) : pre (X ++ Y) q = R := by rw [← h, e, pre_pre]
theorem spn_exit {q : UInt8 → Bool} {l : By} {x y : Nat} (h : spn q (l.drop x) = y - x + spn q (l.drop y)) (hxy : x ≤ y) (h0 : spn q (l.drop y) = 0) : y = x + spn q (l.drop x) := by omega

set_option maxRecDepth 8000 in
set_option maxHeartbeats 2000000 in
theorem Is_spec (c : UInt8) : FnS Tryz.prog 57 [B8 c] [] (fun u Bs => u = I64 (isc c) ∧ Bs = []) := by
 refine fn_body Tryz.func57 rfl rfl rfl ?_
 intro W0 R
 simp only [List.zipIdx_cons, List.zipIdx_nil, List.map_cons, List.map_nil, Nat.zero_add, Nat.reduceAdd, List.cons_append, List.nil_append]
 refine g_seq ?_
 refine g_region ?_
 refine gl_v rfl (o_assign rfl) ?_
 refine gl_nil ?_
 refine ge_then ?_
 refine g_seq ?_
 refine g_block ?_
 refine g_seq ?_
 refine g_region ?_
 refine gl_v rfl (o_move rfl) ?_
 refine gl_v rfl (o_eql rfl rfl) ?_
 refine gl_v rfl (o_move rfl) ?_
 refine gl_g rfl rfl (fun hc1 => ?_) (fun hc1 => ?_) rfl
 ·
  have hc1' := hc1
  replace hc1' := hs_ hc1'
  refine gl_v rfl (o_move rfl) ?_
  refine gl_gT rfl rfl hc1 ?_
  refine gl_v rfl (o_eql rfl rfl) ?_
  refine gl_v rfl (o_pickF hc1 rfl rfl) ?_
  refine gl_v rfl (o_move rfl) ?_
  refine gl_g rfl rfl (fun hc2 => ?_) (fun hc2 => ?_) rfl
  ·
   have hc2' := hc2
   replace hc2' := hs_ hc2'
   refine gl_v rfl (o_move rfl) ?_
   refine gl_gT rfl rfl hc2 ?_
   refine gl_v rfl (o_eql rfl rfl) ?_
   refine gl_v rfl (o_pickF hc2 rfl rfl) ?_
   refine gl_v rfl (o_move rfl) ?_
   refine gl_g rfl rfl (fun hc3 => ?_) (fun hc3 => ?_) rfl
   ·
    have hc3' := hc3
    replace hc3' := hs_ hc3'
    refine gl_v rfl (o_move rfl) ?_
    refine gl_gT rfl rfl hc3 ?_
    refine gl_v rfl (o_eql rfl rfl) ?_
    refine gl_v rfl (o_pickF hc3 rfl rfl) ?_
    refine gl_v rfl (o_assign rfl) ?_
    refine gl_nil ?_
    refine ge_then ?_
    refine g_cond rfl (fun hc4 => ?_) (fun hc4 => ?_)
    ·
     replace hc4 := hs_ hc4
     refine g_seq ?_
     refine g_region ?_
     refine gl_v rfl (o_assign rfl) ?_
     refine gl_nil ?_
     refine ge_then ?_
     refine g_ret ?_
     refine ge_block_ret ?_
     refine ge_then_ret ?_
     refine ret1 (.inl rfl) rfl rfl _ (⟨by (try simp only [Bool.not_false, Bool.not_true, decide_eq_true_eq, decide_eq_false_iff_not] at *); refine congrArg (Value.int .i64) ?_; unfold isc isBlank isLet isDig isSign; simp only [decide_eq_true_eq]; (repeat' split) <;> first | rfl | omega, rfl⟩) (tO)
    ·
     replace hc4 := hs_ hc4
     refine g_seq ?_
     refine g_region ?_
     refine gl_v rfl (o_move rfl) ?_
     refine gl_v rfl (o_geq rfl rfl) ?_
     refine gl_v rfl (o_move rfl) ?_
     refine gl_g rfl rfl (fun hc5 => ?_) (fun hc5 => ?_) rfl
     ·
      have hc5' := hc5
      replace hc5' := hs_ hc5'
      refine gl_v rfl (o_move rfl) ?_
      refine gl_gT rfl rfl hc5 ?_
      refine gl_v rfl (o_leq rfl rfl) ?_
      refine gl_v rfl (o_pickT hc5 rfl rfl) ?_
      refine gl_v rfl (o_assign rfl) ?_
      refine gl_nil ?_
      refine ge_then ?_
      refine g_cond rfl (fun hc6 => ?_) (fun hc6 => ?_)
      ·
       replace hc6 := hs_ hc6
       refine g_seq ?_
       refine g_region ?_
       refine gl_v rfl (o_assign rfl) ?_
       refine gl_nil ?_
       refine ge_then ?_
       refine g_ret ?_
       refine ge_block_ret ?_
       refine ge_then_ret ?_
       refine ret1 (.inl rfl) rfl rfl _ (⟨by (try simp only [Bool.not_false, Bool.not_true, decide_eq_true_eq, decide_eq_false_iff_not] at *); refine congrArg (Value.int .i64) ?_; unfold isc isBlank isLet isDig isSign; simp only [decide_eq_true_eq]; (repeat' split) <;> first | rfl | omega, rfl⟩) (tO)
      ·
       replace hc6 := hs_ hc6
       refine g_seq ?_
       refine g_region ?_
       refine gl_v rfl (o_move rfl) ?_
       refine gl_v rfl (o_geq rfl rfl) ?_
       refine gl_v rfl (o_move rfl) ?_
       refine gl_g rfl rfl (fun hc7 => ?_) (fun hc7 => ?_) rfl
       ·
        have hc7' := hc7
        replace hc7' := hs_ hc7'
        refine gl_v rfl (o_move rfl) ?_
        refine gl_gT rfl rfl hc7 ?_
        refine gl_v rfl (o_leq rfl rfl) ?_
        refine gl_v rfl (o_pickT hc7 rfl rfl) ?_
        refine gl_v rfl (o_assign rfl) ?_
        refine gl_nil ?_
        refine ge_then ?_
        refine g_cond rfl (fun hc8 => ?_) (fun hc8 => ?_)
        ·
         replace hc8 := hs_ hc8
         refine g_seq ?_
         refine g_region ?_
         refine gl_v rfl (o_assign rfl) ?_
         refine gl_nil ?_
         refine ge_then ?_
         refine g_ret ?_
         refine ge_block_ret ?_
         refine ge_then_ret ?_
         refine ret1 (.inl rfl) rfl rfl _ (⟨by (try simp only [Bool.not_false, Bool.not_true, decide_eq_true_eq, decide_eq_false_iff_not] at *); refine congrArg (Value.int .i64) ?_; unfold isc isBlank isLet isDig isSign; simp only [decide_eq_true_eq]; (repeat' split) <;> first | rfl | omega, rfl⟩) (tO)
        ·
         replace hc8 := hs_ hc8
         refine g_seq ?_
         refine g_region ?_
         refine gl_v rfl (o_move rfl) ?_
         refine gl_v rfl (o_eql rfl rfl) ?_
         refine gl_v rfl (o_assign rfl) ?_
         refine gl_nil ?_
         refine ge_then ?_
         refine g_cond rfl (fun hc9 => ?_) (fun hc9 => ?_)
         ·
          replace hc9 := hs_ hc9
          refine g_seq ?_
          refine g_region ?_
          refine gl_v rfl (o_assign rfl) ?_
          refine gl_nil ?_
          refine ge_then ?_
          refine g_ret ?_
          refine ge_block_ret ?_
          refine ge_then_ret ?_
          refine ret1 (.inl rfl) rfl rfl _ (⟨by (try simp only [Bool.not_false, Bool.not_true, decide_eq_true_eq, decide_eq_false_iff_not] at *); refine congrArg (Value.int .i64) ?_; unfold isc isBlank isLet isDig isSign; simp only [decide_eq_true_eq]; (repeat' split) <;> first | rfl | omega, rfl⟩) (tO)
         ·
          replace hc9 := hs_ hc9
          refine g_seq ?_
          refine g_region ?_
          refine gl_v rfl (o_move rfl) ?_
          refine gl_v rfl (o_eql rfl rfl) ?_
          refine gl_v rfl (o_move rfl) ?_
          refine gl_g rfl rfl (fun hc10 => ?_) (fun hc10 => ?_) rfl
          ·
           have hc10' := hc10
           replace hc10' := hs_ hc10'
           refine gl_v rfl (o_move rfl) ?_
           refine gl_gT rfl rfl hc10 ?_
           refine gl_v rfl (o_eql rfl rfl) ?_
           refine gl_v rfl (o_pickF hc10 rfl rfl) ?_
           refine gl_v rfl (o_move rfl) ?_
           refine gl_g rfl rfl (fun hc11 => ?_) (fun hc11 => ?_) rfl
           ·
            have hc11' := hc11
            replace hc11' := hs_ hc11'
            refine gl_v rfl (o_move rfl) ?_
            refine gl_gT rfl rfl hc11 ?_
            refine gl_v rfl (o_eql rfl rfl) ?_
            refine gl_v rfl (o_pickF hc11 rfl rfl) ?_
            refine gl_v rfl (o_assign rfl) ?_
            refine gl_nil ?_
            refine ge_then ?_
            refine g_cond rfl (fun hc12 => ?_) (fun hc12 => ?_)
            ·
             replace hc12 := hs_ hc12
             refine g_seq ?_
             refine g_region ?_
             refine gl_v rfl (o_assign rfl) ?_
             refine gl_nil ?_
             refine ge_then ?_
             refine g_ret ?_
             refine ge_block_ret ?_
             refine ge_then_ret ?_
             refine ret1 (.inl rfl) rfl rfl _ (⟨by (try simp only [Bool.not_false, Bool.not_true, decide_eq_true_eq, decide_eq_false_iff_not] at *); refine congrArg (Value.int .i64) ?_; unfold isc isBlank isLet isDig isSign; simp only [decide_eq_true_eq]; (repeat' split) <;> first | rfl | omega, rfl⟩) (tO)
            ·
             replace hc12 := hs_ hc12
             refine g_seq ?_
             refine g_region ?_
             refine gl_v rfl (o_move rfl) ?_
             refine gl_v rfl (o_eql rfl rfl) ?_
             refine gl_v rfl (o_assign rfl) ?_
             refine gl_nil ?_
             refine ge_then ?_
             refine g_cond rfl (fun hc13 => ?_) (fun hc13 => ?_)
             ·
              replace hc13 := hs_ hc13
              refine g_seq ?_
              refine g_region ?_
              refine gl_v rfl (o_assign rfl) ?_
              refine gl_nil ?_
              refine ge_then ?_
              refine g_ret ?_
              refine ge_block_ret ?_
              refine ge_then_ret ?_
              refine ret1 (.inl rfl) rfl rfl _ (⟨by (try simp only [Bool.not_false, Bool.not_true, decide_eq_true_eq, decide_eq_false_iff_not] at *); refine congrArg (Value.int .i64) ?_; unfold isc isBlank isLet isDig isSign; simp only [decide_eq_true_eq]; (repeat' split) <;> first | rfl | omega, rfl⟩) (tO)
             ·
              replace hc13 := hs_ hc13
              refine g_skip ?_
              refine ge_block ?_
              refine ge_then ?_
              refine g_seq ?_
              refine g_region ?_
              refine gl_v rfl (o_assign rfl) ?_
              refine gl_nil ?_
              refine ge_then ?_
              refine g_ret ?_
              refine ret1 (.inl rfl) rfl rfl _ (⟨by (try simp only [Bool.not_false, Bool.not_true, decide_eq_true_eq, decide_eq_false_iff_not] at *); refine congrArg (Value.int .i64) ?_; unfold isc isBlank isLet isDig isSign; simp only [decide_eq_true_eq]; (repeat' split) <;> first | rfl | omega, rfl⟩) (tO)
           ·
            have hc11' := hc11
            replace hc11' := hs_ hc11'
            simp only [putO]
            refine gl_gF rfl rfl hc11 rfl ?_
            refine gl_v rfl (o_pickT hc11 rfl rfl) ?_
            refine gl_v rfl (o_assign rfl) ?_
            refine gl_nil ?_
            refine ge_then ?_
            refine g_cond_true rfl ?_
            refine g_seq ?_
            refine g_region ?_
            refine gl_v rfl (o_assign rfl) ?_
            refine gl_nil ?_
            refine ge_then ?_
            refine g_ret ?_
            refine ge_block_ret ?_
            refine ge_then_ret ?_
            refine ret1 (.inl rfl) rfl rfl _ (⟨by (try simp only [Bool.not_false, Bool.not_true, decide_eq_true_eq, decide_eq_false_iff_not] at *); refine congrArg (Value.int .i64) ?_; unfold isc isBlank isLet isDig isSign; simp only [decide_eq_true_eq]; (repeat' split) <;> first | rfl | omega, rfl⟩) (tO)
          ·
           have hc10' := hc10
           replace hc10' := hs_ hc10'
           simp only [putO]
           refine gl_gF rfl rfl hc10 rfl ?_
           refine gl_v rfl (o_pickT hc10 rfl rfl) ?_
           refine gl_v rfl (o_move rfl) ?_
           refine gl_gF rfl rfl rfl rfl ?_
           refine gl_gF rfl rfl rfl rfl ?_
           refine gl_v rfl (o_pickT rfl rfl rfl) ?_
           refine gl_v rfl (o_assign rfl) ?_
           refine gl_nil ?_
           refine ge_then ?_
           refine g_cond_true rfl ?_
           refine g_seq ?_
           refine g_region ?_
           refine gl_v rfl (o_assign rfl) ?_
           refine gl_nil ?_
           refine ge_then ?_
           refine g_ret ?_
           refine ge_block_ret ?_
           refine ge_then_ret ?_
           refine ret1 (.inl rfl) rfl rfl _ (⟨by (try simp only [Bool.not_false, Bool.not_true, decide_eq_true_eq, decide_eq_false_iff_not] at *); refine congrArg (Value.int .i64) ?_; unfold isc isBlank isLet isDig isSign; simp only [decide_eq_true_eq]; (repeat' split) <;> first | rfl | omega, rfl⟩) (tO)
       ·
        have hc7' := hc7
        replace hc7' := hs_ hc7'
        simp only [putO]
        refine gl_gF rfl rfl hc7 rfl ?_
        refine gl_v rfl (o_pickF hc7 rfl rfl) ?_
        refine gl_v rfl (o_assign rfl) ?_
        refine gl_nil ?_
        refine ge_then ?_
        refine g_cond_false rfl ?_
        refine g_seq ?_
        refine g_region ?_
        refine gl_v rfl (o_move rfl) ?_
        refine gl_v rfl (o_eql rfl rfl) ?_
        refine gl_v rfl (o_assign rfl) ?_
        refine gl_nil ?_
        refine ge_then ?_
        refine g_cond rfl (fun hc14 => ?_) (fun hc14 => ?_)
        ·
         replace hc14 := hs_ hc14
         refine g_seq ?_
         refine g_region ?_
         refine gl_v rfl (o_assign rfl) ?_
         refine gl_nil ?_
         refine ge_then ?_
         refine g_ret ?_
         refine ge_block_ret ?_
         refine ge_then_ret ?_
         refine ret1 (.inl rfl) rfl rfl _ (⟨by (try simp only [Bool.not_false, Bool.not_true, decide_eq_true_eq, decide_eq_false_iff_not] at *); refine congrArg (Value.int .i64) ?_; unfold isc isBlank isLet isDig isSign; simp only [decide_eq_true_eq]; (repeat' split) <;> first | rfl | omega, rfl⟩) (tO)
        ·
         replace hc14 := hs_ hc14
         refine g_seq ?_
         refine g_region ?_
         refine gl_v rfl (o_move rfl) ?_
         refine gl_v rfl (o_eql rfl rfl) ?_
         refine gl_v rfl (o_move rfl) ?_
         refine gl_g rfl rfl (fun hc15 => ?_) (fun hc15 => ?_) rfl
         ·
          have hc15' := hc15
          replace hc15' := hs_ hc15'
          refine gl_v rfl (o_move rfl) ?_
          refine gl_gT rfl rfl hc15 ?_
          refine gl_v rfl (o_eql rfl rfl) ?_
          refine gl_v rfl (o_pickF hc15 rfl rfl) ?_
          refine gl_v rfl (o_move rfl) ?_
          refine gl_g rfl rfl (fun hc16 => ?_) (fun hc16 => ?_) rfl
          ·
           have hc16' := hc16
           replace hc16' := hs_ hc16'
           refine gl_v rfl (o_move rfl) ?_
           refine gl_gT rfl rfl hc16 ?_
           refine gl_v rfl (o_eql rfl rfl) ?_
           refine gl_v rfl (o_pickF hc16 rfl rfl) ?_
           refine gl_v rfl (o_assign rfl) ?_
           refine gl_nil ?_
           refine ge_then ?_
           refine g_cond rfl (fun hc17 => ?_) (fun hc17 => ?_)
           ·
            replace hc17 := hs_ hc17
            refine g_seq ?_
            refine g_region ?_
            refine gl_v rfl (o_assign rfl) ?_
            refine gl_nil ?_
            refine ge_then ?_
            refine g_ret ?_
            refine ge_block_ret ?_
            refine ge_then_ret ?_
            refine ret1 (.inl rfl) rfl rfl _ (⟨by (try simp only [Bool.not_false, Bool.not_true, decide_eq_true_eq, decide_eq_false_iff_not] at *); refine congrArg (Value.int .i64) ?_; unfold isc isBlank isLet isDig isSign; simp only [decide_eq_true_eq]; (repeat' split) <;> first | rfl | omega, rfl⟩) (tO)
           ·
            replace hc17 := hs_ hc17
            refine g_seq ?_
            refine g_region ?_
            refine gl_v rfl (o_move rfl) ?_
            refine gl_v rfl (o_eql rfl rfl) ?_
            refine gl_v rfl (o_assign rfl) ?_
            refine gl_nil ?_
            refine ge_then ?_
            refine g_cond rfl (fun hc18 => ?_) (fun hc18 => ?_)
            ·
             replace hc18 := hs_ hc18
             refine g_seq ?_
             refine g_region ?_
             refine gl_v rfl (o_assign rfl) ?_
             refine gl_nil ?_
             refine ge_then ?_
             refine g_ret ?_
             refine ge_block_ret ?_
             refine ge_then_ret ?_
             refine ret1 (.inl rfl) rfl rfl _ (⟨by (try simp only [Bool.not_false, Bool.not_true, decide_eq_true_eq, decide_eq_false_iff_not] at *); refine congrArg (Value.int .i64) ?_; unfold isc isBlank isLet isDig isSign; simp only [decide_eq_true_eq]; (repeat' split) <;> first | rfl | omega, rfl⟩) (tO)
            ·
             replace hc18 := hs_ hc18
             refine g_skip ?_
             refine ge_block ?_
             refine ge_then ?_
             refine g_seq ?_
             refine g_region ?_
             refine gl_v rfl (o_assign rfl) ?_
             refine gl_nil ?_
             refine ge_then ?_
             refine g_ret ?_
             refine ret1 (.inl rfl) rfl rfl _ (⟨by (try simp only [Bool.not_false, Bool.not_true, decide_eq_true_eq, decide_eq_false_iff_not] at *); refine congrArg (Value.int .i64) ?_; unfold isc isBlank isLet isDig isSign; simp only [decide_eq_true_eq]; (repeat' split) <;> first | rfl | omega, rfl⟩) (tO)
          ·
           have hc16' := hc16
           replace hc16' := hs_ hc16'
           simp only [putO]
           refine gl_gF rfl rfl hc16 rfl ?_
           refine gl_v rfl (o_pickT hc16 rfl rfl) ?_
           refine gl_v rfl (o_assign rfl) ?_
           refine gl_nil ?_
           refine ge_then ?_
           refine g_cond_true rfl ?_
           refine g_seq ?_
           refine g_region ?_
           refine gl_v rfl (o_assign rfl) ?_
           refine gl_nil ?_
           refine ge_then ?_
           refine g_ret ?_
           refine ge_block_ret ?_
           refine ge_then_ret ?_
           refine ret1 (.inl rfl) rfl rfl _ (⟨by (try simp only [Bool.not_false, Bool.not_true, decide_eq_true_eq, decide_eq_false_iff_not] at *); refine congrArg (Value.int .i64) ?_; unfold isc isBlank isLet isDig isSign; simp only [decide_eq_true_eq]; (repeat' split) <;> first | rfl | omega, rfl⟩) (tO)
         ·
          have hc15' := hc15
          replace hc15' := hs_ hc15'
          simp only [putO]
          refine gl_gF rfl rfl hc15 rfl ?_
          refine gl_v rfl (o_pickT hc15 rfl rfl) ?_
          refine gl_v rfl (o_move rfl) ?_
          refine gl_gF rfl rfl rfl rfl ?_
          refine gl_gF rfl rfl rfl rfl ?_
          refine gl_v rfl (o_pickT rfl rfl rfl) ?_
          refine gl_v rfl (o_assign rfl) ?_
          refine gl_nil ?_
          refine ge_then ?_
          refine g_cond_true rfl ?_
          refine g_seq ?_
          refine g_region ?_
          refine gl_v rfl (o_assign rfl) ?_
          refine gl_nil ?_
          refine ge_then ?_
          refine g_ret ?_
          refine ge_block_ret ?_
          refine ge_then_ret ?_
          refine ret1 (.inl rfl) rfl rfl _ (⟨by (try simp only [Bool.not_false, Bool.not_true, decide_eq_true_eq, decide_eq_false_iff_not] at *); refine congrArg (Value.int .i64) ?_; unfold isc isBlank isLet isDig isSign; simp only [decide_eq_true_eq]; (repeat' split) <;> first | rfl | omega, rfl⟩) (tO)
     ·
      have hc5' := hc5
      replace hc5' := hs_ hc5'
      simp only [putO]
      refine gl_gF rfl rfl hc5 rfl ?_
      refine gl_v rfl (o_pickF hc5 rfl rfl) ?_
      refine gl_v rfl (o_assign rfl) ?_
      refine gl_nil ?_
      refine ge_then ?_
      refine g_cond_false rfl ?_
      refine g_seq ?_
      refine g_region ?_
      refine gl_v rfl (o_move rfl) ?_
      refine gl_v rfl (o_geq rfl rfl) ?_
      refine gl_v rfl (o_move rfl) ?_
      refine gl_g rfl rfl (fun hc19 => ?_) (fun hc19 => ?_) rfl
      ·
       have hc19' := hc19
       replace hc19' := hs_ hc19'
       refine gl_v rfl (o_move rfl) ?_
       refine gl_gT rfl rfl hc19 ?_
       refine gl_v rfl (o_leq rfl rfl) ?_
       refine gl_v rfl (o_pickT hc19 rfl rfl) ?_
       refine gl_v rfl (o_assign rfl) ?_
       refine gl_nil ?_
       refine ge_then ?_
       refine g_cond rfl (fun hc20 => ?_) (fun hc20 => ?_)
       ·
        replace hc20 := hs_ hc20
        refine g_seq ?_
        refine g_region ?_
        refine gl_v rfl (o_assign rfl) ?_
        refine gl_nil ?_
        refine ge_then ?_
        refine g_ret ?_
        refine ge_block_ret ?_
        refine ge_then_ret ?_
        refine ret1 (.inl rfl) rfl rfl _ (⟨by (try simp only [Bool.not_false, Bool.not_true, decide_eq_true_eq, decide_eq_false_iff_not] at *); refine congrArg (Value.int .i64) ?_; unfold isc isBlank isLet isDig isSign; simp only [decide_eq_true_eq]; (repeat' split) <;> first | rfl | omega, rfl⟩) (tO)
       ·
        replace hc20 := hs_ hc20
        refine g_seq ?_
        refine g_region ?_
        refine gl_v rfl (o_move rfl) ?_
        refine gl_v rfl (o_eql rfl rfl) ?_
        refine gl_v rfl (o_assign rfl) ?_
        refine gl_nil ?_
        refine ge_then ?_
        refine g_cond rfl (fun hc21 => ?_) (fun hc21 => ?_)
        ·
         replace hc21 := hs_ hc21
         refine g_seq ?_
         refine g_region ?_
         refine gl_v rfl (o_assign rfl) ?_
         refine gl_nil ?_
         refine ge_then ?_
         refine g_ret ?_
         refine ge_block_ret ?_
         refine ge_then_ret ?_
         refine ret1 (.inl rfl) rfl rfl _ (⟨by (try simp only [Bool.not_false, Bool.not_true, decide_eq_true_eq, decide_eq_false_iff_not] at *); refine congrArg (Value.int .i64) ?_; unfold isc isBlank isLet isDig isSign; simp only [decide_eq_true_eq]; (repeat' split) <;> first | rfl | omega, rfl⟩) (tO)
        ·
         replace hc21 := hs_ hc21
         refine g_seq ?_
         refine g_region ?_
         refine gl_v rfl (o_move rfl) ?_
         refine gl_v rfl (o_eql rfl rfl) ?_
         refine gl_v rfl (o_move rfl) ?_
         refine gl_g rfl rfl (fun hc22 => ?_) (fun hc22 => ?_) rfl
         ·
          have hc22' := hc22
          replace hc22' := hs_ hc22'
          refine gl_v rfl (o_move rfl) ?_
          refine gl_gT rfl rfl hc22 ?_
          refine gl_v rfl (o_eql rfl rfl) ?_
          refine gl_v rfl (o_pickF hc22 rfl rfl) ?_
          refine gl_v rfl (o_move rfl) ?_
          refine gl_g rfl rfl (fun hc23 => ?_) (fun hc23 => ?_) rfl
          ·
           have hc23' := hc23
           replace hc23' := hs_ hc23'
           refine gl_v rfl (o_move rfl) ?_
           refine gl_gT rfl rfl hc23 ?_
           refine gl_v rfl (o_eql rfl rfl) ?_
           refine gl_v rfl (o_pickF hc23 rfl rfl) ?_
           refine gl_v rfl (o_assign rfl) ?_
           refine gl_nil ?_
           refine ge_then ?_
           refine g_cond rfl (fun hc24 => ?_) (fun hc24 => ?_)
           ·
            replace hc24 := hs_ hc24
            refine g_seq ?_
            refine g_region ?_
            refine gl_v rfl (o_assign rfl) ?_
            refine gl_nil ?_
            refine ge_then ?_
            refine g_ret ?_
            refine ge_block_ret ?_
            refine ge_then_ret ?_
            refine ret1 (.inl rfl) rfl rfl _ (⟨by (try simp only [Bool.not_false, Bool.not_true, decide_eq_true_eq, decide_eq_false_iff_not] at *); refine congrArg (Value.int .i64) ?_; unfold isc isBlank isLet isDig isSign; simp only [decide_eq_true_eq]; (repeat' split) <;> first | rfl | omega, rfl⟩) (tO)
           ·
            replace hc24 := hs_ hc24
            refine g_seq ?_
            refine g_region ?_
            refine gl_v rfl (o_move rfl) ?_
            refine gl_v rfl (o_eql rfl rfl) ?_
            refine gl_v rfl (o_assign rfl) ?_
            refine gl_nil ?_
            refine ge_then ?_
            refine g_cond rfl (fun hc25 => ?_) (fun hc25 => ?_)
            ·
             replace hc25 := hs_ hc25
             refine g_seq ?_
             refine g_region ?_
             refine gl_v rfl (o_assign rfl) ?_
             refine gl_nil ?_
             refine ge_then ?_
             refine g_ret ?_
             refine ge_block_ret ?_
             refine ge_then_ret ?_
             refine ret1 (.inl rfl) rfl rfl _ (⟨by (try simp only [Bool.not_false, Bool.not_true, decide_eq_true_eq, decide_eq_false_iff_not] at *); refine congrArg (Value.int .i64) ?_; unfold isc isBlank isLet isDig isSign; simp only [decide_eq_true_eq]; (repeat' split) <;> first | rfl | omega, rfl⟩) (tO)
            ·
             replace hc25 := hs_ hc25
             refine g_skip ?_
             refine ge_block ?_
             refine ge_then ?_
             refine g_seq ?_
             refine g_region ?_
             refine gl_v rfl (o_assign rfl) ?_
             refine gl_nil ?_
             refine ge_then ?_
             refine g_ret ?_
             refine ret1 (.inl rfl) rfl rfl _ (⟨by (try simp only [Bool.not_false, Bool.not_true, decide_eq_true_eq, decide_eq_false_iff_not] at *); refine congrArg (Value.int .i64) ?_; unfold isc isBlank isLet isDig isSign; simp only [decide_eq_true_eq]; (repeat' split) <;> first | rfl | omega, rfl⟩) (tO)
          ·
           have hc23' := hc23
           replace hc23' := hs_ hc23'
           simp only [putO]
           refine gl_gF rfl rfl hc23 rfl ?_
           refine gl_v rfl (o_pickT hc23 rfl rfl) ?_
           refine gl_v rfl (o_assign rfl) ?_
           refine gl_nil ?_
           refine ge_then ?_
           refine g_cond_true rfl ?_
           refine g_seq ?_
           refine g_region ?_
           refine gl_v rfl (o_assign rfl) ?_
           refine gl_nil ?_
           refine ge_then ?_
           refine g_ret ?_
           refine ge_block_ret ?_
           refine ge_then_ret ?_
           refine ret1 (.inl rfl) rfl rfl _ (⟨by (try simp only [Bool.not_false, Bool.not_true, decide_eq_true_eq, decide_eq_false_iff_not] at *); refine congrArg (Value.int .i64) ?_; unfold isc isBlank isLet isDig isSign; simp only [decide_eq_true_eq]; (repeat' split) <;> first | rfl | omega, rfl⟩) (tO)
         ·
          have hc22' := hc22
          replace hc22' := hs_ hc22'
          simp only [putO]
          refine gl_gF rfl rfl hc22 rfl ?_
          refine gl_v rfl (o_pickT hc22 rfl rfl) ?_
          refine gl_v rfl (o_move rfl) ?_
          refine gl_gF rfl rfl rfl rfl ?_
          refine gl_gF rfl rfl rfl rfl ?_
          refine gl_v rfl (o_pickT rfl rfl rfl) ?_
          refine gl_v rfl (o_assign rfl) ?_
          refine gl_nil ?_
          refine ge_then ?_
          refine g_cond_true rfl ?_
          refine g_seq ?_
          refine g_region ?_
          refine gl_v rfl (o_assign rfl) ?_
          refine gl_nil ?_
          refine ge_then ?_
          refine g_ret ?_
          refine ge_block_ret ?_
          refine ge_then_ret ?_
          refine ret1 (.inl rfl) rfl rfl _ (⟨by (try simp only [Bool.not_false, Bool.not_true, decide_eq_true_eq, decide_eq_false_iff_not] at *); refine congrArg (Value.int .i64) ?_; unfold isc isBlank isLet isDig isSign; simp only [decide_eq_true_eq]; (repeat' split) <;> first | rfl | omega, rfl⟩) (tO)
      ·
       have hc19' := hc19
       replace hc19' := hs_ hc19'
       simp only [putO]
       refine gl_gF rfl rfl hc19 rfl ?_
       refine gl_v rfl (o_pickF hc19 rfl rfl) ?_
       refine gl_v rfl (o_assign rfl) ?_
       refine gl_nil ?_
       refine ge_then ?_
       refine g_cond_false rfl ?_
       refine g_seq ?_
       refine g_region ?_
       refine gl_v rfl (o_move rfl) ?_
       refine gl_v rfl (o_eql rfl rfl) ?_
       refine gl_v rfl (o_assign rfl) ?_
       refine gl_nil ?_
       refine ge_then ?_
       refine g_cond rfl (fun hc26 => ?_) (fun hc26 => ?_)
       ·
        replace hc26 := hs_ hc26
        refine g_seq ?_
        refine g_region ?_
        refine gl_v rfl (o_assign rfl) ?_
        refine gl_nil ?_
        refine ge_then ?_
        refine g_ret ?_
        refine ge_block_ret ?_
        refine ge_then_ret ?_
        refine ret1 (.inl rfl) rfl rfl _ (⟨by (try simp only [Bool.not_false, Bool.not_true, decide_eq_true_eq, decide_eq_false_iff_not] at *); refine congrArg (Value.int .i64) ?_; unfold isc isBlank isLet isDig isSign; simp only [decide_eq_true_eq]; (repeat' split) <;> first | rfl | omega, rfl⟩) (tO)
       ·
        replace hc26 := hs_ hc26
        refine g_seq ?_
        refine g_region ?_
        refine gl_v rfl (o_move rfl) ?_
        refine gl_v rfl (o_eql rfl rfl) ?_
        refine gl_v rfl (o_move rfl) ?_
        refine gl_g rfl rfl (fun hc27 => ?_) (fun hc27 => ?_) rfl
        ·
         have hc27' := hc27
         replace hc27' := hs_ hc27'
         refine gl_v rfl (o_move rfl) ?_
         refine gl_gT rfl rfl hc27 ?_
         refine gl_v rfl (o_eql rfl rfl) ?_
         refine gl_v rfl (o_pickF hc27 rfl rfl) ?_
         refine gl_v rfl (o_move rfl) ?_
         refine gl_g rfl rfl (fun hc28 => ?_) (fun hc28 => ?_) rfl
         ·
          have hc28' := hc28
          replace hc28' := hs_ hc28'
          refine gl_v rfl (o_move rfl) ?_
          refine gl_gT rfl rfl hc28 ?_
          refine gl_v rfl (o_eql rfl rfl) ?_
          refine gl_v rfl (o_pickF hc28 rfl rfl) ?_
          refine gl_v rfl (o_assign rfl) ?_
          refine gl_nil ?_
          refine ge_then ?_
          refine g_cond rfl (fun hc29 => ?_) (fun hc29 => ?_)
          ·
           replace hc29 := hs_ hc29
           refine g_seq ?_
           refine g_region ?_
           refine gl_v rfl (o_assign rfl) ?_
           refine gl_nil ?_
           refine ge_then ?_
           refine g_ret ?_
           refine ge_block_ret ?_
           refine ge_then_ret ?_
           refine ret1 (.inl rfl) rfl rfl _ (⟨by (try simp only [Bool.not_false, Bool.not_true, decide_eq_true_eq, decide_eq_false_iff_not] at *); refine congrArg (Value.int .i64) ?_; unfold isc isBlank isLet isDig isSign; simp only [decide_eq_true_eq]; (repeat' split) <;> first | rfl | omega, rfl⟩) (tO)
          ·
           replace hc29 := hs_ hc29
           refine g_seq ?_
           refine g_region ?_
           refine gl_v rfl (o_move rfl) ?_
           refine gl_v rfl (o_eql rfl rfl) ?_
           refine gl_v rfl (o_assign rfl) ?_
           refine gl_nil ?_
           refine ge_then ?_
           refine g_cond rfl (fun hc30 => ?_) (fun hc30 => ?_)
           ·
            replace hc30 := hs_ hc30
            refine g_seq ?_
            refine g_region ?_
            refine gl_v rfl (o_assign rfl) ?_
            refine gl_nil ?_
            refine ge_then ?_
            refine g_ret ?_
            refine ge_block_ret ?_
            refine ge_then_ret ?_
            refine ret1 (.inl rfl) rfl rfl _ (⟨by (try simp only [Bool.not_false, Bool.not_true, decide_eq_true_eq, decide_eq_false_iff_not] at *); refine congrArg (Value.int .i64) ?_; unfold isc isBlank isLet isDig isSign; simp only [decide_eq_true_eq]; (repeat' split) <;> first | rfl | omega, rfl⟩) (tO)
           ·
            replace hc30 := hs_ hc30
            refine g_skip ?_
            refine ge_block ?_
            refine ge_then ?_
            refine g_seq ?_
            refine g_region ?_
            refine gl_v rfl (o_assign rfl) ?_
            refine gl_nil ?_
            refine ge_then ?_
            refine g_ret ?_
            refine ret1 (.inl rfl) rfl rfl _ (⟨by (try simp only [Bool.not_false, Bool.not_true, decide_eq_true_eq, decide_eq_false_iff_not] at *); refine congrArg (Value.int .i64) ?_; unfold isc isBlank isLet isDig isSign; simp only [decide_eq_true_eq]; (repeat' split) <;> first | rfl | omega, rfl⟩) (tO)
         ·
          have hc28' := hc28
          replace hc28' := hs_ hc28'
          simp only [putO]
          refine gl_gF rfl rfl hc28 rfl ?_
          refine gl_v rfl (o_pickT hc28 rfl rfl) ?_
          refine gl_v rfl (o_assign rfl) ?_
          refine gl_nil ?_
          refine ge_then ?_
          refine g_cond_true rfl ?_
          refine g_seq ?_
          refine g_region ?_
          refine gl_v rfl (o_assign rfl) ?_
          refine gl_nil ?_
          refine ge_then ?_
          refine g_ret ?_
          refine ge_block_ret ?_
          refine ge_then_ret ?_
          refine ret1 (.inl rfl) rfl rfl _ (⟨by (try simp only [Bool.not_false, Bool.not_true, decide_eq_true_eq, decide_eq_false_iff_not] at *); refine congrArg (Value.int .i64) ?_; unfold isc isBlank isLet isDig isSign; simp only [decide_eq_true_eq]; (repeat' split) <;> first | rfl | omega, rfl⟩) (tO)
        ·
         have hc27' := hc27
         replace hc27' := hs_ hc27'
         simp only [putO]
         refine gl_gF rfl rfl hc27 rfl ?_
         refine gl_v rfl (o_pickT hc27 rfl rfl) ?_
         refine gl_v rfl (o_move rfl) ?_
         refine gl_gF rfl rfl rfl rfl ?_
         refine gl_gF rfl rfl rfl rfl ?_
         refine gl_v rfl (o_pickT rfl rfl rfl) ?_
         refine gl_v rfl (o_assign rfl) ?_
         refine gl_nil ?_
         refine ge_then ?_
         refine g_cond_true rfl ?_
         refine g_seq ?_
         refine g_region ?_
         refine gl_v rfl (o_assign rfl) ?_
         refine gl_nil ?_
         refine ge_then ?_
         refine g_ret ?_
         refine ge_block_ret ?_
         refine ge_then_ret ?_
         refine ret1 (.inl rfl) rfl rfl _ (⟨by (try simp only [Bool.not_false, Bool.not_true, decide_eq_true_eq, decide_eq_false_iff_not] at *); refine congrArg (Value.int .i64) ?_; unfold isc isBlank isLet isDig isSign; simp only [decide_eq_true_eq]; (repeat' split) <;> first | rfl | omega, rfl⟩) (tO)
   ·
    have hc3' := hc3
    replace hc3' := hs_ hc3'
    simp only [putO]
    refine gl_gF rfl rfl hc3 rfl ?_
    refine gl_v rfl (o_pickT hc3 rfl rfl) ?_
    refine gl_v rfl (o_assign rfl) ?_
    refine gl_nil ?_
    refine ge_then ?_
    refine g_cond_true rfl ?_
    refine g_seq ?_
    refine g_region ?_
    refine gl_v rfl (o_assign rfl) ?_
    refine gl_nil ?_
    refine ge_then ?_
    refine g_ret ?_
    refine ge_block_ret ?_
    refine ge_then_ret ?_
    refine ret1 (.inl rfl) rfl rfl _ (⟨by (try simp only [Bool.not_false, Bool.not_true, decide_eq_true_eq, decide_eq_false_iff_not] at *); refine congrArg (Value.int .i64) ?_; unfold isc isBlank isLet isDig isSign; simp only [decide_eq_true_eq]; (repeat' split) <;> first | rfl | omega, rfl⟩) (tO)
  ·
   have hc2' := hc2
   replace hc2' := hs_ hc2'
   simp only [putO]
   refine gl_gF rfl rfl hc2 rfl ?_
   refine gl_v rfl (o_pickT hc2 rfl rfl) ?_
   refine gl_v rfl (o_move rfl) ?_
   refine gl_gF rfl rfl rfl rfl ?_
   refine gl_gF rfl rfl rfl rfl ?_
   refine gl_v rfl (o_pickT rfl rfl rfl) ?_
   refine gl_v rfl (o_assign rfl) ?_
   refine gl_nil ?_
   refine ge_then ?_
   refine g_cond_true rfl ?_
   refine g_seq ?_
   refine g_region ?_
   refine gl_v rfl (o_assign rfl) ?_
   refine gl_nil ?_
   refine ge_then ?_
   refine g_ret ?_
   refine ge_block_ret ?_
   refine ge_then_ret ?_
   refine ret1 (.inl rfl) rfl rfl _ (⟨by (try simp only [Bool.not_false, Bool.not_true, decide_eq_true_eq, decide_eq_false_iff_not] at *); refine congrArg (Value.int .i64) ?_; unfold isc isBlank isLet isDig isSign; simp only [decide_eq_true_eq]; (repeat' split) <;> first | rfl | omega, rfl⟩) (tO)
 ·
  have hc1' := hc1
  replace hc1' := hs_ hc1'
  simp only [putO]
  refine gl_gF rfl rfl hc1 rfl ?_
  refine gl_v rfl (o_pickT hc1 rfl rfl) ?_
  refine gl_v rfl (o_move rfl) ?_
  refine gl_gF rfl rfl rfl rfl ?_
  refine gl_gF rfl rfl rfl rfl ?_
  refine gl_v rfl (o_pickT rfl rfl rfl) ?_
  refine gl_v rfl (o_move rfl) ?_
  refine gl_gF rfl rfl rfl rfl ?_
  refine gl_gF rfl rfl rfl rfl ?_
  refine gl_v rfl (o_pickT rfl rfl rfl) ?_
  refine gl_v rfl (o_assign rfl) ?_
  refine gl_nil ?_
  refine ge_then ?_
  refine g_cond_true rfl ?_
  refine g_seq ?_
  refine g_region ?_
  refine gl_v rfl (o_assign rfl) ?_
  refine gl_nil ?_
  refine ge_then ?_
  refine g_ret ?_
  refine ge_block_ret ?_
  refine ge_then_ret ?_
  refine ret1 (.inl rfl) rfl rfl _ (⟨by (try simp only [Bool.not_false, Bool.not_true, decide_eq_true_eq, decide_eq_false_iff_not] at *); refine congrArg (Value.int .i64) ?_; unfold isc isBlank isLet isDig isSign; simp only [decide_eq_true_eq]; (repeat' split) <;> first | rfl | omega, rfl⟩) (tO)

set_option maxRecDepth 8000 in
set_option maxHeartbeats 200000 in
theorem RName_spec (l : By) (hl : l.length ≤ 140737488355328) : FnS Tryz.prog 34 [S l] [] (fun u Bs => u = .bool (isName l) ∧ Bs = []) := by
 refine fn_body Tryz.func34 rfl rfl rfl ?_
 intro W0 R
 simp only [List.zipIdx_cons, List.zipIdx_nil, List.map_cons, List.map_nil, Nat.zero_add, Nat.reduceAdd, List.cons_append, List.nil_append]
 refine g_seq ?_
 refine g_region ?_
 refine gl_v rfl (o_assign rfl) ?_
 refine gl_nil ?_
 refine ge_then ?_
 refine g_seq ?_
 refine g_seq ?_
 refine g_region ?_
 refine gl_v rfl (o_move rfl) ?_
 refine gl_v rfl (o_lens rfl) ?_
 refine gl_v rfl (o_lss rfl rfl) ?_
 refine gl_v rfl (o_move rfl) ?_
 refine gl_g rfl rfl (fun hc1 => ?_) (fun hc1 => ?_) rfl
 ·
  have hc1' := hc1
  replace hc1' := hs_ hc1'
  refine gl_v rfl (o_move rfl) ?_
  refine gl_gT rfl rfl hc1 ?_
  refine gl_v rfl (o_lens rfl) ?_
  refine gl_gT rfl rfl hc1 ?_
  refine gl_v rfl (o_gtr rfl rfl) ?_
  refine gl_v rfl (o_pickF hc1 rfl rfl) ?_
  refine gl_v rfl (o_move rfl) ?_
  refine gl_g rfl rfl (fun hc2 => ?_) (fun hc2 => ?_) rfl
  ·
   have hc2' := hc2
   replace hc2' := hs_ hc2'
   refine gl_v rfl (o_move rfl) ?_
   refine gl_gT rfl rfl hc2 ?_
   obtain ⟨c, r, rfl⟩ : ∃ c r, l = c :: r := by
     cases l with
     | nil => simp at *
     | cons c r => exact ⟨c, r, rfl⟩
   refine gl_v rfl (o_index_string rfl rfl (rfl)) ?_
   refine gl_gT rfl rfl hc2 ?_
   refine gl_c rfl (o_call rfl (Is_spec c) pA) ?_
   rintro _ R ⟨_, ⟨rfl, rfl⟩, rfl⟩
   try simp only [List.cons_append, List.nil_append]
   refine gl_gT rfl rfl hc2 ?_
   refine gl_v rfl (o_neq rfl rfl) ?_
   refine gl_v rfl (o_pickF hc2 rfl rfl) ?_
   refine gl_nil ?_
   refine ge_then ?_
   refine g_cond rfl (fun hc3 => ?_) (fun hc3 => ?_)
   ·
    replace hc3 := hs_ hc3
    refine g_seq ?_
    refine g_region ?_
    refine gl_v rfl (o_assign rfl) ?_
    refine gl_nil ?_
    refine ge_then ?_
    refine g_ret ?_
    refine ge_then_ret ?_
    refine ret1 (.inl rfl) rfl rfl _ (⟨by first | (rw [name_all hlc h16, hs, spn_no hg (in_f (by omega))]; refine bool_eq ?_; simp only [decide_eq_true_eq, Bool.false_eq_true, false_iff]; omega) | (rw [name_all hlc h16, hs, spn_end (by omega)]; refine bool_eq ?_; simp only [decide_eq_true_eq, true_iff]; omega) | rw [name_long (by omega)] | rw [name_nolet (let_f (by omega))] | (have : l = [] := List.eq_nil_of_length_eq_zero (by omega); subst this; rfl), rfl⟩) (tO)
   ·
    replace hc3 := hs_ hc3
    refine g_skip ?_
    refine ge_then ?_
    refine g_seq ?_
    refine g_seq ?_
    obtain ⟨hlc, h16⟩ : isc c = 2 ∧ (c :: r).length ≤ 16 := by constructor <;> omega
    replace hlc := (isc_let c).1 hlc
    refine g_region ?_
    refine gl_v rfl (o_assign rfl) ?_
    refine gl_nil ?_
    refine ge_then ?_
    refine g_block ?_
    refine g_loop (ι := Nat) (fun x => x ≤ (c :: r).length ∧ spn isIn (c :: r) = x + spn isIn ((c :: r).drop x)) (fun x => [(3, I64 x), (0, S (c :: r))]) (fun _ => R) (fun x => (c :: r).length - x) 0 (⟨Nat.zero_le _, by rw [List.drop_zero, Nat.zero_add]⟩) (Keep.cons rfl (Keep.cons rfl (Keep.nil))) (tO) ?_
    rintro x ⟨hx, hs⟩
    replace hx : x ≤ (c :: r).length := hx
    replace hs : spn isIn (c :: r) = x + spn isIn ((c :: r).drop x) := hs
    refine g_seq ?_
    refine g_seq ?_
    refine g_region ?_
    refine gl_v rfl (o_move rfl) ?_
    refine gl_v rfl (o_move rfl) ?_
    refine gl_v rfl (o_lens rfl) ?_
    refine gl_v rfl (o_lss rfl rfl) ?_
    refine gl_nil ?_
    refine ge_then ?_
    refine g_cond rfl (fun hc4 => ?_) (fun hc4 => ?_)
    ·
     replace hc4 := hs_ hc4
     refine g_skip ?_
     refine ge_then ?_
     refine g_seq ?_
     refine g_block ?_
     refine g_seq ?_
     refine g_region ?_
     refine gl_v rfl (o_move rfl) ?_
     refine gl_v rfl (o_move rfl) ?_
     obtain ⟨d, hg⟩ : ∃ d, (c :: r)[x]? = some d := ⟨_, List.getElem?_eq_getElem (show x < (c :: r).length by omega)⟩
     refine gl_v rfl (o_index_string rfl rfl (hg)) ?_
     refine gl_c rfl (o_call rfl (Is_spec d) pA) ?_
     rintro _ R ⟨_, ⟨rfl, rfl⟩, rfl⟩
     try simp only [List.cons_append, List.nil_append]
     refine gl_v rfl (o_assign rfl) ?_
     refine gl_nil ?_
     refine ge_then ?_
     refine g_seq ?_
     refine g_region ?_
     refine gl_v rfl (o_move rfl) ?_
     refine gl_v rfl (o_neq rfl rfl) ?_
     refine gl_v rfl (o_move rfl) ?_
     refine gl_g rfl rfl (fun hc5 => ?_) (fun hc5 => ?_) rfl
     ·
      have hc5' := hc5
      replace hc5' := hs_ hc5'
      refine gl_v rfl (o_move rfl) ?_
      refine gl_gT rfl rfl hc5 ?_
      refine gl_v rfl (o_neq rfl rfl) ?_
      refine gl_v rfl (o_pickT hc5 rfl rfl) ?_
      refine gl_v rfl (o_move rfl) ?_
      refine gl_g rfl rfl (fun hc6 => ?_) (fun hc6 => ?_) rfl
      ·
       have hc6' := hc6
       replace hc6' := hs_ hc6'
       refine gl_v rfl (o_move rfl) ?_
       refine gl_gT rfl rfl hc6 ?_
       refine gl_v rfl (o_neq rfl rfl) ?_
       refine gl_v rfl (o_pickT hc6 rfl rfl) ?_
       refine gl_nil ?_
       refine ge_then ?_
       refine g_cond rfl (fun hc7 => ?_) (fun hc7 => ?_)
       ·
        replace hc7 := hs_ hc7
        refine g_seq ?_
        refine g_region ?_
        refine gl_v rfl (o_assign rfl) ?_
        refine gl_nil ?_
        refine ge_then ?_
        refine g_ret ?_
        refine ge_block_ret ?_
        refine ge_then_ret ?_
        refine ge_then_ret ?_
        refine ge_block_ret ?_
        refine ge_then_ret ?_
        refine ret1 (.inl rfl) rfl rfl _ (⟨by first | (rw [name_all hlc h16, hs, spn_no hg (in_f (by omega))]; refine bool_eq ?_; simp only [decide_eq_true_eq, Bool.false_eq_true, false_iff]; omega) | (rw [name_all hlc h16, hs, spn_end (by omega)]; refine bool_eq ?_; simp only [decide_eq_true_eq, true_iff]; omega) | rw [name_long (by omega)] | rw [name_nolet (let_f (by omega))] | (have : l = [] := List.eq_nil_of_length_eq_zero (by omega); subst this; rfl), rfl⟩) (tO)
       ·
        replace hc7 := hs_ hc7
        refine g_skip ?_
        refine ge_block ?_
        refine ge_then ?_
        refine g_region ?_
        refine gl_v rfl (o_move rfl) ?_
        refine gl_v rfl (o_addR (((x + 1 : Nat) : Int)) (by rw [wr_i64 (by omega)]; omega) rfl rfl) ?_
        refine gl_v rfl (o_assign rfl) ?_
        refine gl_nil ?_
        have hi : isIn d = true := (isc_in d).2 (by omega)
        refine ge_round (x + 1) ⟨show x + 1 ≤ (c :: r).length by omega, show spn isIn (c :: r) = x + 1 + spn isIn ((c :: r).drop (x + 1)) by rw [hs, spn_step hg hi]; omega⟩ (show (c :: r).length - (x + 1) < (c :: r).length - x by omega) (Keep.cons rfl (Keep.cons rfl (Keep.nil))) (tO)
      ·
       have hc6' := hc6
       replace hc6' := hs_ hc6'
       simp only [putO]
       refine gl_gF rfl rfl hc6 rfl ?_
       refine gl_v rfl (o_pickF hc6 rfl rfl) ?_
       refine gl_nil ?_
       refine ge_then ?_
       refine g_cond_false rfl ?_
       refine g_skip ?_
       refine ge_block ?_
       refine ge_then ?_
       refine g_region ?_
       refine gl_v rfl (o_move rfl) ?_
       refine gl_v rfl (o_addR (((x + 1 : Nat) : Int)) (by rw [wr_i64 (by omega)]; omega) rfl rfl) ?_
       refine gl_v rfl (o_assign rfl) ?_
       refine gl_nil ?_
       have hi : isIn d = true := (isc_in d).2 (by omega)
       refine ge_round (x + 1) ⟨show x + 1 ≤ (c :: r).length by omega, show spn isIn (c :: r) = x + 1 + spn isIn ((c :: r).drop (x + 1)) by rw [hs, spn_step hg hi]; omega⟩ (show (c :: r).length - (x + 1) < (c :: r).length - x by omega) (Keep.cons rfl (Keep.cons rfl (Keep.nil))) (tO)
     ·
      have hc5' := hc5
      replace hc5' := hs_ hc5'
      simp only [putO]
      refine gl_gF rfl rfl hc5 rfl ?_
      refine gl_v rfl (o_pickF hc5 rfl rfl) ?_
      refine gl_v rfl (o_move rfl) ?_
      refine gl_gF rfl rfl rfl rfl ?_
      refine gl_gF rfl rfl rfl rfl ?_
      refine gl_v rfl (o_pickF rfl rfl rfl) ?_
      refine gl_nil ?_
      refine ge_then ?_
      refine g_cond_false rfl ?_
      refine g_skip ?_
      refine ge_block ?_
      refine ge_then ?_
      refine g_region ?_
      refine gl_v rfl (o_move rfl) ?_
      refine gl_v rfl (o_addR (((x + 1 : Nat) : Int)) (by rw [wr_i64 (by omega)]; omega) rfl rfl) ?_
      refine gl_v rfl (o_assign rfl) ?_
      refine gl_nil ?_
      have hi : isIn d = true := (isc_in d).2 (by omega)
      refine ge_round (x + 1) ⟨show x + 1 ≤ (c :: r).length by omega, show spn isIn (c :: r) = x + 1 + spn isIn ((c :: r).drop (x + 1)) by rw [hs, spn_step hg hi]; omega⟩ (show (c :: r).length - (x + 1) < (c :: r).length - x by omega) (Keep.cons rfl (Keep.cons rfl (Keep.nil))) (tO)
    ·
     replace hc4 := hs_ hc4
     refine g_exit ?_
     refine ge_then_exit ?_
     refine ge_then_exit ?_
     refine ge_block_exit ?_
     refine ge_then ?_
     refine g_seq ?_
     refine g_region ?_
     refine gl_v rfl (o_assign rfl) ?_
     refine gl_nil ?_
     refine ge_then ?_
     refine g_ret ?_
     refine ret1 (.inl rfl) rfl rfl _ (⟨by first | (rw [name_all hlc h16, hs, spn_no hg (in_f (by omega))]; refine bool_eq ?_; simp only [decide_eq_true_eq, Bool.false_eq_true, false_iff]; omega) | (rw [name_all hlc h16, hs, spn_end (by omega)]; refine bool_eq ?_; simp only [decide_eq_true_eq, true_iff]; omega) | rw [name_long (by omega)] | rw [name_nolet (let_f (by omega))] | (have : l = [] := List.eq_nil_of_length_eq_zero (by omega); subst this; rfl), rfl⟩) (tO)
  ·
   have hc2' := hc2
   replace hc2' := hs_ hc2'
   simp only [putO]
   refine gl_gF rfl rfl hc2 rfl ?_
   refine gl_gF rfl rfl hc2 rfl ?_
   refine gl_gF rfl rfl hc2 rfl ?_
   refine gl_v rfl (o_pickT hc2 rfl rfl) ?_
   refine gl_nil ?_
   refine ge_then ?_
   refine g_cond_true rfl ?_
   refine g_seq ?_
   refine g_region ?_
   refine gl_v rfl (o_assign rfl) ?_
   refine gl_nil ?_
   refine ge_then ?_
   refine g_ret ?_
   refine ge_then_ret ?_
   refine ret1 (.inl rfl) rfl rfl _ (⟨by first | (rw [name_all hlc h16, hs, spn_no hg (in_f (by omega))]; refine bool_eq ?_; simp only [decide_eq_true_eq, Bool.false_eq_true, false_iff]; omega) | (rw [name_all hlc h16, hs, spn_end (by omega)]; refine bool_eq ?_; simp only [decide_eq_true_eq, true_iff]; omega) | rw [name_long (by omega)] | rw [name_nolet (let_f (by omega))] | (have : l = [] := List.eq_nil_of_length_eq_zero (by omega); subst this; rfl), rfl⟩) (tO)
 ·
  have hc1' := hc1
  replace hc1' := hs_ hc1'
  simp only [putO]
  refine gl_gF rfl rfl hc1 rfl ?_
  refine gl_gF rfl rfl hc1 rfl ?_
  refine gl_v rfl (o_pickT hc1 rfl rfl) ?_
  refine gl_v rfl (o_move rfl) ?_
  refine gl_gF rfl rfl rfl rfl ?_
  refine gl_gF rfl rfl rfl rfl ?_
  refine gl_gF rfl rfl rfl rfl ?_
  refine gl_gF rfl rfl rfl rfl ?_
  refine gl_v rfl (o_pickT rfl rfl rfl) ?_
  refine gl_nil ?_
  refine ge_then ?_
  refine g_cond_true rfl ?_
  refine g_seq ?_
  refine g_region ?_
  refine gl_v rfl (o_assign rfl) ?_
  refine gl_nil ?_
  refine ge_then ?_
  refine g_ret ?_
  refine ge_then_ret ?_
  refine ret1 (.inl rfl) rfl rfl _ (⟨by first | (rw [name_all hlc h16, hs, spn_no hg (in_f (by omega))]; refine bool_eq ?_; simp only [decide_eq_true_eq, Bool.false_eq_true, false_iff]; omega) | (rw [name_all hlc h16, hs, spn_end (by omega)]; refine bool_eq ?_; simp only [decide_eq_true_eq, true_iff]; omega) | rw [name_long (by omega)] | rw [name_nolet (let_f (by omega))] | (have : l = [] := List.eq_nil_of_length_eq_zero (by omega); subst this; rfl), rfl⟩) (tO)

set_option maxRecDepth 8000 in
set_option maxHeartbeats 2000000 in
theorem RAll_spec (l : By) (hl : l.length ≤ 140737488355328) : FnS Tryz.prog 25 [S l] [] (fun u Bs => ∃ a c, u = rv (lexAll l) a c ∧ Bs = ra (lexAll l) a c) := by
 refine fn_body Tryz.func25 rfl rfl rfl ?_
 intro W0 R
 simp only [List.zipIdx_cons, List.zipIdx_nil, List.map_cons, List.map_nil, Nat.zero_add, Nat.reduceAdd, List.cons_append, List.nil_append]
 refine g_seq ?_
 refine g_region ?_
 refine gl_v rfl (o_assign rfl) ?_
 refine gl_v rfl (o_assign rfl) ?_
 refine gl_v rfl (o_assign rfl) ?_
 refine gl_nil ?_
 refine ge_then ?_
 refine g_seq ?_
 refine g_region ?_
 refine gl_v rfl (o_assign rfl) ?_
 refine gl_nil ?_
 refine ge_then ?_
 refine g_seq ?_
 refine g_seq ?_
 refine g_region ?_
 refine gl_v rfl (o_move rfl) ?_
 refine gl_v rfl (o_lens rfl) ?_
 refine gl_v rfl (o_gtr rfl rfl) ?_
 refine gl_nil ?_
 refine ge_then ?_
 refine g_cond rfl (fun hc1 => ?_) (fun hc1 => ?_)
 ·
  replace hc1 := hs_ hc1
  have hbig : lexAll l = .error (5, 0) := by unfold lexAll; rw [if_pos (by omega)]
  refine g_seq ?_
  refine g_region ?_
  refine gl_v rfl (o_move rfl) ?_
  refine gl_v rfl (o_assign rfl) ?_
  refine gl_v rfl (o_assign rfl) ?_
  refine gl_v rfl (o_assign rfl) ?_
  refine gl_nil ?_
  refine ge_then ?_
  refine g_ret ?_
  refine ge_then_ret ?_
  have hE : lexAll l = .error (5, 0) := hbig
  refine ret3 (.inl rfl) rfl rfl rfl rfl [] ⟨none, 0, by rw [hE]; rfl, by rw [hE]; rfl⟩ (tO)
 ·
  replace hc1 := hs_ hc1
  refine g_skip ?_
  refine ge_then ?_
  refine g_seq ?_
  refine g_region ?_
  refine gl_v rfl (o_assign rfl) ?_
  refine gl_nil ?_
  refine ge_then ?_
  refine g_seq ?_
  refine g_block ?_
  refine g_loop (ι := Nat × List Tk × Option Addr × Nat) (fun z => z.1 ≤ l.length ∧ z.2.1.length ≤ z.1 ∧ pre z.2.1 (lex z.1 (l.drop z.1)) = lexAll l) (fun z => [(6, I64 z.1), (5, .slice z.2.2.1 z.2.1.length z.2.2.2), (0, S l)]) (fun z => tksA z.2.2.1 z.2.2.2 z.2.1 :: R) (fun z => l.length - z.1) (0, [], none, 0) (⟨Nat.zero_le _, Nat.zero_le _, by rw [List.drop_zero, pre_nil]; unfold lexAll; rw [if_neg (by omega)]⟩) (Keep.cons rfl (Keep.cons rfl (Keep.cons rfl (Keep.nil)))) (fun h s => own_nil0 h s) ?_
  rintro ⟨x, X, a, c0⟩ ⟨hx, hXx, hR⟩
  replace hx : x ≤ l.length := hx
  replace hXx : X.length ≤ x := hXx
  replace hR : pre X (lex x (l.drop x)) = lexAll l := hR
  dsimp only
  refine g_seq ?_
  refine g_seq ?_
  refine g_region ?_
  refine gl_v rfl (o_move rfl) ?_
  refine gl_v rfl (o_move rfl) ?_
  refine gl_v rfl (o_lens rfl) ?_
  refine gl_v rfl (o_lss rfl rfl) ?_
  refine gl_nil ?_
  refine ge_then ?_
  refine g_cond rfl (fun hc2 => ?_) (fun hc2 => ?_)
  ·
   replace hc2 := hs_ hc2
   obtain ⟨c, hg⟩ : ∃ c, l[x]? = some c := ⟨_, List.getElem?_eq_getElem (show x < l.length by omega)⟩
   refine g_skip ?_
   refine ge_then ?_
   refine g_block ?_
   refine g_seq ?_
   refine g_region ?_
   refine gl_v rfl (o_move rfl) ?_
   refine gl_v rfl (o_assign rfl) ?_
   refine gl_nil ?_
   refine ge_then ?_
   refine g_seq ?_
   refine g_region ?_
   refine gl_v rfl (o_move rfl) ?_
   refine gl_v rfl (o_move rfl) ?_
   refine gl_v rfl (o_index_string rfl rfl (hg)) ?_
   refine gl_c rfl (o_call rfl (Is_spec c) pA) ?_
   rintro _ R ⟨_, ⟨rfl, rfl⟩, rfl⟩
   try simp only [List.cons_append, List.nil_append]
   refine gl_nil ?_
   refine ge_then ?_
   refine g_block ?_
   refine g_seq ?_
   refine g_region ?_
   refine gl_v rfl (o_eql rfl rfl) ?_
   refine gl_v rfl (o_assign rfl) ?_
   refine gl_nil ?_
   refine ge_then ?_
   refine g_cond rfl (fun hc3 => ?_) (fun hc3 => ?_)
   ·
    replace hc3 := hs_ hc3
    refine g_region ?_
    refine gl_v rfl (o_move rfl) ?_
    refine gl_v rfl (o_addR (((x + 1 : Nat) : Int)) (by rw [wr_i64 (by omega)]; omega) rfl rfl) ?_
    refine gl_v rfl (o_assign rfl) ?_
    refine gl_nil ?_
    refine ge_block ?_
    refine ge_block ?_
    refine ge_round (x + 1, X, a, c0) ⟨show x + 1 ≤ l.length by omega, show X.length ≤ x + 1 by omega, by rw [← hR, drop_at hg, lex_blank ((isc_blank c).1 (by omega))]⟩ (show l.length - (x + 1) < l.length - x by omega) (Keep.cons rfl (Keep.cons rfl (Keep.cons rfl (Keep.nil)))) (tO)
   ·
    replace hc3 := hs_ hc3
    refine g_seq ?_
    refine g_region ?_
    refine gl_v rfl (o_eql rfl rfl) ?_
    refine gl_v rfl (o_assign rfl) ?_
    refine gl_nil ?_
    refine ge_then ?_
    refine g_cond rfl (fun hc4 => ?_) (fun hc4 => ?_)
    ·
     replace hc4 := hs_ hc4
     refine g_block ?_
     refine g_loop (ι := Nat) (fun y => x ≤ y ∧ y ≤ l.length ∧ spn notNl (l.drop x) = y - x + spn notNl (l.drop y)) (fun y => [(6, I64 y), (7, I64 x), (5, .slice a X.length c0), (0, S l)]) (fun _ => tksA a c0 X :: R) (fun y => l.length - y) x (⟨Nat.le_refl _, hx, by rw [Nat.sub_self, Nat.zero_add]⟩) (Keep.cons rfl (Keep.cons rfl (Keep.cons rfl (Keep.cons rfl (Keep.nil))))) (tO) ?_
     rintro y ⟨hxy, hy, hs⟩
     replace hxy : x ≤ y := hxy
     replace hy : y ≤ l.length := hy
     replace hs : spn notNl (l.drop x) = y - x + spn notNl (l.drop y) := hs
     refine g_seq ?_
     refine g_seq ?_
     refine g_region ?_
     refine gl_v rfl (o_move rfl) ?_
     refine gl_v rfl (o_move rfl) ?_
     refine gl_v rfl (o_lens rfl) ?_
     refine gl_v rfl (o_lss rfl rfl) ?_
     refine gl_v rfl (o_move rfl) ?_
     refine gl_g rfl rfl (fun hc5 => ?_) (fun hc5 => ?_) rfl
     ·
      have hc5' := hc5
      replace hc5' := hs_ hc5'
      refine gl_v rfl (o_move rfl) ?_
      refine gl_gT rfl rfl hc5 ?_
      refine gl_v rfl (o_move rfl) ?_
      refine gl_gT rfl rfl hc5 ?_
      obtain ⟨d, hd⟩ : ∃ d, l[y]? = some d := ⟨_, List.getElem?_eq_getElem (show y < l.length by omega)⟩
      refine gl_v rfl (o_index_string rfl rfl (hd)) ?_
      refine gl_gT rfl rfl hc5 ?_
      refine gl_v rfl (o_neq rfl rfl) ?_
      refine gl_v rfl (o_pickT hc5 rfl rfl) ?_
      refine gl_nil ?_
      refine ge_then ?_
      refine g_cond rfl (fun hc6 => ?_) (fun hc6 => ?_)
      ·
       replace hc6 := hs_ hc6
       refine g_skip ?_
       refine ge_then ?_
       refine g_block ?_
       refine g_region ?_
       refine gl_v rfl (o_move rfl) ?_
       refine gl_v rfl (o_addR (((y + 1 : Nat) : Int)) (by rw [wr_i64 (by omega)]; omega) rfl rfl) ?_
       refine gl_v rfl (o_assign rfl) ?_
       refine gl_nil ?_
       refine ge_block ?_
       have hq : notNl d = true := by unfold notNl; rw [decide_eq_true_eq]; omega
       refine ge_round (y + 1) ⟨show x ≤ y + 1 by omega, show y + 1 ≤ l.length by omega, show spn notNl (l.drop x) = y + 1 - x + spn notNl (l.drop (y + 1)) by rw [hs, spn_step hd hq]; omega⟩ (show l.length - (y + 1) < l.length - y by omega) (Keep.cons rfl (Keep.cons rfl (Keep.cons rfl (Keep.cons rfl (Keep.nil))))) (tO)
      ·
       replace hc6 := hs_ hc6
       refine g_exit ?_
       refine ge_then_exit ?_
       refine ge_then_exit ?_
       refine ge_block_exit ?_
       refine ge_block ?_
       refine ge_block ?_
       have hz : spn notNl (l.drop y) = 0 := by first | exact spn_end (by omega) | exact spn_no hd (by unfold notNl; rw [decide_eq_false_iff_not]; omega)
       obtain rfl := spn_exit hs hxy hz
       have hpos := spn_step (p := notNl) hg (by unfold notNl; rw [decide_eq_true_eq]; have := (isc_hash c).1 (by omega); omega)
       refine ge_round (x + spn notNl (l.drop x), X, a, c0) ⟨show x + spn notNl (l.drop x) ≤ l.length by omega, show X.length ≤ x + spn notNl (l.drop x) by omega, by rw [← skip_hash hg ((isc_hash c).1 (by omega)) rfl]; exact hR⟩ (show l.length - (x + spn notNl (l.drop x)) < l.length - x by omega) (Keep.cons rfl (Keep.cons rfl (Keep.cons rfl (Keep.nil)))) (tO)
     ·
      have hc5' := hc5
      replace hc5' := hs_ hc5'
      simp only [putO]
      refine gl_gF rfl rfl hc5 rfl ?_
      refine gl_gF rfl rfl hc5 rfl ?_
      refine gl_gF rfl rfl hc5 rfl ?_
      refine gl_v rfl (o_pickF hc5 rfl rfl) ?_
      refine gl_nil ?_
      refine ge_then ?_
      refine g_cond_false rfl ?_
      refine g_exit ?_
      refine ge_then_exit ?_
      refine ge_then_exit ?_
      refine ge_block_exit ?_
      refine ge_block ?_
      refine ge_block ?_
      have hz : spn notNl (l.drop y) = 0 := by first | exact spn_end (by omega) | exact spn_no hd (by unfold notNl; rw [decide_eq_false_iff_not]; omega)
      obtain rfl := spn_exit hs hxy hz
      have hpos := spn_step (p := notNl) hg (by unfold notNl; rw [decide_eq_true_eq]; have := (isc_hash c).1 (by omega); omega)
      refine ge_round (x + spn notNl (l.drop x), X, a, c0) ⟨show x + spn notNl (l.drop x) ≤ l.length by omega, show X.length ≤ x + spn notNl (l.drop x) by omega, by rw [← skip_hash hg ((isc_hash c).1 (by omega)) rfl]; exact hR⟩ (show l.length - (x + spn notNl (l.drop x)) < l.length - x by omega) (Keep.cons rfl (Keep.cons rfl (Keep.cons rfl (Keep.nil)))) (tO)
    ·
     replace hc4 := hs_ hc4
     refine g_seq ?_
     refine g_region ?_
     refine gl_v rfl (o_eql rfl rfl) ?_
     refine gl_v rfl (o_assign rfl) ?_
     refine gl_nil ?_
     refine ge_then ?_
     refine g_cond rfl (fun hc7 => ?_) (fun hc7 => ?_)
     ·
      replace hc7 := hs_ hc7
      refine g_seq ?_
      refine g_region ?_
      refine gl_v rfl (o_move rfl) ?_
      refine gl_v rfl (o_addR (((x + 1 : Nat) : Int)) (by rw [wr_i64 (by omega)]; omega) rfl rfl) ?_
      refine gl_v rfl (o_assign rfl) ?_
      refine gl_nil ?_
      refine ge_then ?_
      refine g_region ?_
      refine gl_v rfl (o_move rfl) ?_
      refine gl_v rfl (o_move rfl) ?_
      refine gl_v rfl (o_move rfl) ?_
      refine gl_v rfl (o_move rfl) ?_
      refine gl_v rfl (o_strSub rfl rfl rfl (by omega) (by omega)) ?_
      rw [sub_one hg]
      refine gl_v rfl (o_move rfl) ?_
      refine gl_v rfl (o_build rfl rfl) ?_
      refine gl_n rfl (o_buildS1A (vs := tkC ⟨3, [c], 0, x⟩) rfl rfl rfl rfl) ?_
      rintro _ _ ⟨b52, rfl, rfl⟩
      refine gl_n rfl (o_append rfl rfl pA rfl rfl rfl (by omega) (by unfold maxLen; omega)) ?_
      rintro _ _ ⟨a53, c53, rfl, rfl⟩
      refine gl_v rfl (o_assign rfl) ?_
      refine gl_nil ?_
      refine ge_block ?_
      refine ge_block ?_
      refine ge_round (x + 1, X ++ [⟨3, [c], 0, x⟩], a53, c53) ⟨show x + 1 ≤ l.length by omega, show (X ++ [_]).length ≤ x + 1 by rw [List.length_append]; simp; omega, pre_step hR (step_sgn hg ((isc_sign c).1 (by omega)))⟩ (show l.length - (x + 1) < l.length - x by omega) (Keep.cons rfl (Keep.cons (by rw [List.length_append]; rfl) (Keep.cons rfl Keep.nil))) (by dsimp only [tksA]; rw [← flat_snoc, List.length_append]; exact (tO))
     ·
      replace hc7 := hs_ hc7
      refine g_seq ?_
      refine g_region ?_
      refine gl_v rfl (o_eql rfl rfl) ?_
      refine gl_v rfl (o_assign rfl) ?_
      refine gl_nil ?_
      refine ge_then ?_
      refine g_cond rfl (fun hc8 => ?_) (fun hc8 => ?_)
      ·
       replace hc8 := hs_ hc8
       have hcl := (isc_let c).1 (show isc c = 2 by omega)
       have hsl := spn_le isIn (l.drop x)
       rw [List.length_drop] at hsl
       have hs1 := spn_step (p := isIn) hg (let_in hcl)
       refine g_seq ?_
       refine g_block ?_
       refine g_loop (ι := Nat) (fun y => x ≤ y ∧ y ≤ l.length ∧ spn isIn (l.drop x) = y - x + spn isIn (l.drop y)) (fun y => [(6, I64 y), (7, I64 x), (5, .slice a X.length c0), (0, S l)]) (fun _ => tksA a c0 X :: R) (fun y => l.length - y) x (⟨Nat.le_refl _, hx, by rw [Nat.sub_self, Nat.zero_add]⟩) (Keep.cons rfl (Keep.cons rfl (Keep.cons rfl (Keep.cons rfl (Keep.nil))))) (tO) ?_
       rintro y ⟨hxy, hy, hs⟩
       replace hxy : x ≤ y := hxy
       replace hy : y ≤ l.length := hy
       replace hs : spn isIn (l.drop x) = y - x + spn isIn (l.drop y) := hs
       refine g_seq ?_
       refine g_seq ?_
       refine g_region ?_
       refine gl_v rfl (o_move rfl) ?_
       refine gl_v rfl (o_move rfl) ?_
       refine gl_v rfl (o_lens rfl) ?_
       refine gl_v rfl (o_lss rfl rfl) ?_
       refine gl_v rfl (o_move rfl) ?_
       refine gl_g rfl rfl (fun hc9 => ?_) (fun hc9 => ?_) rfl
       ·
        have hc9' := hc9
        replace hc9' := hs_ hc9'
        refine gl_v rfl (o_move rfl) ?_
        refine gl_gT rfl rfl hc9 ?_
        refine gl_v rfl (o_move rfl) ?_
        refine gl_gT rfl rfl hc9 ?_
        obtain ⟨d, hd⟩ : ∃ d, l[y]? = some d := ⟨_, List.getElem?_eq_getElem (show y < l.length by omega)⟩
        refine gl_v rfl (o_index_string rfl rfl (hd)) ?_
        refine gl_gT rfl rfl hc9 ?_
        refine gl_c rfl (o_call rfl (Is_spec d) pA) ?_
        rintro _ R ⟨_, ⟨rfl, rfl⟩, rfl⟩
        try simp only [List.cons_append, List.nil_append]
        refine gl_gT rfl rfl hc9 ?_
        refine gl_v rfl (o_eql rfl rfl) ?_
        refine gl_gT rfl rfl hc9 ?_
        refine gl_v rfl (o_move rfl) ?_
        refine gl_g rfl rfl (fun hc10 => ?_) (fun hc10 => ?_) rfl
        ·
         have hc10' := hc10
         replace hc10' := hs_ hc10'
         refine gl_v rfl (o_move rfl) ?_
         refine gl_gT rfl rfl hc10 ?_
         refine gl_v rfl (o_move rfl) ?_
         refine gl_gT rfl rfl hc10 ?_
         refine gl_v rfl (o_index_string rfl rfl (hd)) ?_
         refine gl_gT rfl rfl hc10 ?_
         refine gl_c rfl (o_call rfl (Is_spec d) pA) ?_
         rintro _ R ⟨_, ⟨rfl, rfl⟩, rfl⟩
         try simp only [List.cons_append, List.nil_append]
         refine gl_gT rfl rfl hc10 ?_
         refine gl_v rfl (o_eql rfl rfl) ?_
         refine gl_gT rfl rfl hc9 ?_
         refine gl_v rfl (o_pickF hc10 rfl rfl) ?_
         refine gl_gT rfl rfl hc9 ?_
         refine gl_v rfl (o_move rfl) ?_
         refine gl_g rfl rfl (fun hc11 => ?_) (fun hc11 => ?_) rfl
         ·
          have hc11' := hc11
          replace hc11' := hs_ hc11'
          refine gl_v rfl (o_move rfl) ?_
          refine gl_gT rfl rfl hc11 ?_
          refine gl_v rfl (o_move rfl) ?_
          refine gl_gT rfl rfl hc11 ?_
          refine gl_v rfl (o_index_string rfl rfl (hd)) ?_
          refine gl_gT rfl rfl hc11 ?_
          refine gl_c rfl (o_call rfl (Is_spec d) pA) ?_
          rintro _ R ⟨_, ⟨rfl, rfl⟩, rfl⟩
          try simp only [List.cons_append, List.nil_append]
          refine gl_gT rfl rfl hc11 ?_
          refine gl_v rfl (o_eql rfl rfl) ?_
          refine gl_gT rfl rfl hc9 ?_
          refine gl_v rfl (o_pickF hc11 rfl rfl) ?_
          refine gl_v rfl (o_pickT hc9 rfl rfl) ?_
          refine gl_nil ?_
          refine ge_then ?_
          refine g_cond rfl (fun hc12 => ?_) (fun hc12 => ?_)
          ·
           replace hc12 := hs_ hc12
           refine g_skip ?_
           refine ge_then ?_
           refine g_block ?_
           refine g_region ?_
           refine gl_v rfl (o_move rfl) ?_
           refine gl_v rfl (o_addR (((y + 1 : Nat) : Int)) (by rw [wr_i64 (by omega)]; omega) rfl rfl) ?_
           refine gl_v rfl (o_assign rfl) ?_
           refine gl_nil ?_
           refine ge_block ?_
           have hq : isIn d = true := (isc_in d).2 (by omega)
           refine ge_round (y + 1) ⟨show x ≤ y + 1 by omega, show y + 1 ≤ l.length by omega, show spn isIn (l.drop x) = y + 1 - x + spn isIn (l.drop (y + 1)) by rw [hs, spn_step hd hq]; omega⟩ (show l.length - (y + 1) < l.length - y by omega) (Keep.cons rfl (Keep.cons rfl (Keep.cons rfl (Keep.cons rfl (Keep.nil))))) (tO)
          ·
           replace hc12 := hs_ hc12
           refine g_exit ?_
           refine ge_then_exit ?_
           refine ge_then_exit ?_
           refine ge_block_exit ?_
           refine ge_then ?_
           refine g_seq ?_
           refine g_seq ?_
           have hz : spn isIn (l.drop y) = 0 := by first | exact spn_end (by omega) | exact spn_no hd (in_f (by omega))
           obtain rfl := spn_exit hs hxy hz
           
           refine g_region ?_
           refine gl_v rfl (o_move rfl) ?_
           refine gl_v rfl (o_move rfl) ?_
           refine gl_v rfl (o_subR ((spn isIn (l.drop x) : Nat) : Int) (by rw [wr_i64 (by omega)]; omega) rfl rfl) ?_
           refine gl_v rfl (o_gtr rfl rfl) ?_
           refine gl_nil ?_
           refine ge_then ?_
           refine g_cond rfl (fun hc13 => ?_) (fun hc13 => ?_)
           ·
            replace hc13 := hs_ hc13
            refine g_seq ?_
            refine g_region ?_
            refine gl_v rfl (o_move rfl) ?_
            refine gl_v rfl (o_assign rfl) ?_
            refine gl_v rfl (o_assign rfl) ?_
            refine gl_v rfl (o_assign rfl) ?_
            refine gl_nil ?_
            refine ge_then ?_
            refine g_ret ?_
            refine ge_then_ret ?_
            refine ge_block_ret ?_
            refine ge_block_ret ?_
            refine ge_then_ret ?_
            refine ge_block_ret ?_
            refine ge_then_ret ?_
            have hE : lexAll l = .error (22, x) := by rw [← hR, step_letE hg hcl (by omega)]; rfl
            refine ret3 (.inl rfl) rfl rfl rfl rfl [] ⟨none, 0, by rw [hE]; rfl, by rw [hE]; rfl⟩ (tO)
           ·
            replace hc13 := hs_ hc13
            refine g_skip ?_
            refine ge_then ?_
            refine g_region ?_
            refine gl_v rfl (o_move rfl) ?_
            refine gl_v rfl (o_move rfl) ?_
            refine gl_v rfl (o_move rfl) ?_
            refine gl_v rfl (o_move rfl) ?_
            refine gl_v rfl (o_strSub rfl rfl rfl (by omega) (by omega)) ?_
            rw [sub_take]
            refine gl_v rfl (o_move rfl) ?_
            refine gl_v rfl (o_build rfl rfl) ?_
            refine gl_n rfl (o_buildS1A (vs := tkC ⟨1, (l.drop x).take (spn isIn (l.drop x)), 0, x⟩) rfl rfl rfl rfl) ?_
            rintro _ _ ⟨b95, rfl, rfl⟩
            refine gl_n rfl (o_append rfl rfl pA rfl rfl rfl (by omega) (by unfold maxLen; omega)) ?_
            rintro _ _ ⟨a96, c96, rfl, rfl⟩
            refine gl_v rfl (o_assign rfl) ?_
            refine gl_nil ?_
            refine ge_block ?_
            refine ge_block ?_
            refine ge_round (x + spn isIn (l.drop x), X ++ [⟨1, (l.drop x).take (spn isIn (l.drop x)), 0, x⟩], a96, c96) ⟨show x + spn isIn (l.drop x) ≤ l.length by omega, show (X ++ [_]).length ≤ x + spn isIn (l.drop x) by rw [List.length_append]; simp; omega, pre_step hR (step_let hg hcl (by omega))⟩ (show l.length - (x + spn isIn (l.drop x)) < l.length - x by omega) (Keep.cons rfl (Keep.cons (by rw [List.length_append]; rfl) (Keep.cons rfl Keep.nil))) (by dsimp only [tksA]; rw [← flat_snoc, List.length_append]; exact (tO))
         ·
          have hc11' := hc11
          replace hc11' := hs_ hc11'
          simp only [putO]
          refine gl_gF rfl rfl hc11 rfl ?_
          refine gl_gF rfl rfl hc11 rfl ?_
          refine gl_gF rfl rfl hc11 rfl ?_
          refine gl_gF rfl rfl hc11 rfl ?_
          refine gl_gT rfl rfl hc9 ?_
          refine gl_v rfl (o_pickT hc11 rfl rfl) ?_
          refine gl_v rfl (o_pickT hc9 rfl rfl) ?_
          refine gl_nil ?_
          refine ge_then ?_
          refine g_cond_true rfl ?_
          refine g_skip ?_
          refine ge_then ?_
          refine g_block ?_
          refine g_region ?_
          refine gl_v rfl (o_move rfl) ?_
          refine gl_v rfl (o_addR (((y + 1 : Nat) : Int)) (by rw [wr_i64 (by omega)]; omega) rfl rfl) ?_
          refine gl_v rfl (o_assign rfl) ?_
          refine gl_nil ?_
          refine ge_block ?_
          have hq : isIn d = true := (isc_in d).2 (by omega)
          refine ge_round (y + 1) ⟨show x ≤ y + 1 by omega, show y + 1 ≤ l.length by omega, show spn isIn (l.drop x) = y + 1 - x + spn isIn (l.drop (y + 1)) by rw [hs, spn_step hd hq]; omega⟩ (show l.length - (y + 1) < l.length - y by omega) (Keep.cons rfl (Keep.cons rfl (Keep.cons rfl (Keep.cons rfl (Keep.nil))))) (tO)
        ·
         have hc10' := hc10
         replace hc10' := hs_ hc10'
         simp only [putO]
         refine gl_gF rfl rfl hc10 rfl ?_
         refine gl_gF rfl rfl hc10 rfl ?_
         refine gl_gF rfl rfl hc10 rfl ?_
         refine gl_gF rfl rfl hc10 rfl ?_
         refine gl_gT rfl rfl hc9 ?_
         refine gl_v rfl (o_pickT hc10 rfl rfl) ?_
         refine gl_gT rfl rfl hc9 ?_
         refine gl_v rfl (o_move rfl) ?_
         refine gl_gF rfl rfl rfl rfl ?_
         refine gl_gF rfl rfl rfl rfl ?_
         refine gl_gF rfl rfl rfl rfl ?_
         refine gl_gF rfl rfl rfl rfl ?_
         refine gl_gF rfl rfl rfl rfl ?_
         refine gl_gT rfl rfl hc9 ?_
         refine gl_v rfl (o_pickT rfl rfl rfl) ?_
         refine gl_v rfl (o_pickT hc9 rfl rfl) ?_
         refine gl_nil ?_
         refine ge_then ?_
         refine g_cond_true rfl ?_
         refine g_skip ?_
         refine ge_then ?_
         refine g_block ?_
         refine g_region ?_
         refine gl_v rfl (o_move rfl) ?_
         refine gl_v rfl (o_addR (((y + 1 : Nat) : Int)) (by rw [wr_i64 (by omega)]; omega) rfl rfl) ?_
         refine gl_v rfl (o_assign rfl) ?_
         refine gl_nil ?_
         refine ge_block ?_
         have hq : isIn d = true := (isc_in d).2 (by omega)
         refine ge_round (y + 1) ⟨show x ≤ y + 1 by omega, show y + 1 ≤ l.length by omega, show spn isIn (l.drop x) = y + 1 - x + spn isIn (l.drop (y + 1)) by rw [hs, spn_step hd hq]; omega⟩ (show l.length - (y + 1) < l.length - y by omega) (Keep.cons rfl (Keep.cons rfl (Keep.cons rfl (Keep.cons rfl (Keep.nil))))) (tO)
       ·
        have hc9' := hc9
        replace hc9' := hs_ hc9'
        simp only [putO]
        refine gl_gF rfl rfl hc9 rfl ?_
        refine gl_gF rfl rfl hc9 rfl ?_
        refine gl_gF rfl rfl hc9 rfl ?_
        refine gl_gF rfl rfl hc9 rfl ?_
        refine gl_gF rfl rfl hc9 rfl ?_
        refine gl_gU rfl rfl rfl ?_
        refine gl_gU rfl rfl rfl ?_
        refine gl_gU rfl rfl rfl ?_
        refine gl_gU rfl rfl rfl ?_
        refine gl_gU rfl rfl rfl ?_
        refine gl_gF rfl rfl hc9 rfl ?_
        refine gl_gF rfl rfl hc9 rfl ?_
        refine gl_gU rfl rfl rfl ?_
        refine gl_gU rfl rfl rfl ?_
        refine gl_gU rfl rfl rfl ?_
        refine gl_gU rfl rfl rfl ?_
        refine gl_gU rfl rfl rfl ?_
        refine gl_gF rfl rfl hc9 rfl ?_
        refine gl_v rfl (o_pickF hc9 rfl rfl) ?_
        refine gl_nil ?_
        refine ge_then ?_
        refine g_cond_false rfl ?_
        refine g_exit ?_
        refine ge_then_exit ?_
        refine ge_then_exit ?_
        refine ge_block_exit ?_
        refine ge_then ?_
        refine g_seq ?_
        refine g_seq ?_
        have hz : spn isIn (l.drop y) = 0 := by first | exact spn_end (by omega) | exact spn_no hd (in_f (by omega))
        obtain rfl := spn_exit hs hxy hz
        
        refine g_region ?_
        refine gl_v rfl (o_move rfl) ?_
        refine gl_v rfl (o_move rfl) ?_
        refine gl_v rfl (o_subR ((spn isIn (l.drop x) : Nat) : Int) (by rw [wr_i64 (by omega)]; omega) rfl rfl) ?_
        refine gl_v rfl (o_gtr rfl rfl) ?_
        refine gl_nil ?_
        refine ge_then ?_
        refine g_cond rfl (fun hc14 => ?_) (fun hc14 => ?_)
        ·
         replace hc14 := hs_ hc14
         refine g_seq ?_
         refine g_region ?_
         refine gl_v rfl (o_move rfl) ?_
         refine gl_v rfl (o_assign rfl) ?_
         refine gl_v rfl (o_assign rfl) ?_
         refine gl_v rfl (o_assign rfl) ?_
         refine gl_nil ?_
         refine ge_then ?_
         refine g_ret ?_
         refine ge_then_ret ?_
         refine ge_block_ret ?_
         refine ge_block_ret ?_
         refine ge_then_ret ?_
         refine ge_block_ret ?_
         refine ge_then_ret ?_
         have hE : lexAll l = .error (22, x) := by rw [← hR, step_letE hg hcl (by omega)]; rfl
         refine ret3 (.inl rfl) rfl rfl rfl rfl [] ⟨none, 0, by rw [hE]; rfl, by rw [hE]; rfl⟩ (tO)
        ·
         replace hc14 := hs_ hc14
         refine g_skip ?_
         refine ge_then ?_
         refine g_region ?_
         refine gl_v rfl (o_move rfl) ?_
         refine gl_v rfl (o_move rfl) ?_
         refine gl_v rfl (o_move rfl) ?_
         refine gl_v rfl (o_move rfl) ?_
         refine gl_v rfl (o_strSub rfl rfl rfl (by omega) (by omega)) ?_
         rw [sub_take]
         refine gl_v rfl (o_move rfl) ?_
         refine gl_v rfl (o_build rfl rfl) ?_
         refine gl_n rfl (o_buildS1A (vs := tkC ⟨1, (l.drop x).take (spn isIn (l.drop x)), 0, x⟩) rfl rfl rfl rfl) ?_
         rintro _ _ ⟨b95, rfl, rfl⟩
         refine gl_n rfl (o_append rfl rfl pA rfl rfl rfl (by omega) (by unfold maxLen; omega)) ?_
         rintro _ _ ⟨a96, c96, rfl, rfl⟩
         refine gl_v rfl (o_assign rfl) ?_
         refine gl_nil ?_
         refine ge_block ?_
         refine ge_block ?_
         refine ge_round (x + spn isIn (l.drop x), X ++ [⟨1, (l.drop x).take (spn isIn (l.drop x)), 0, x⟩], a96, c96) ⟨show x + spn isIn (l.drop x) ≤ l.length by omega, show (X ++ [_]).length ≤ x + spn isIn (l.drop x) by rw [List.length_append]; simp; omega, pre_step hR (step_let hg hcl (by omega))⟩ (show l.length - (x + spn isIn (l.drop x)) < l.length - x by omega) (Keep.cons rfl (Keep.cons (by rw [List.length_append]; rfl) (Keep.cons rfl Keep.nil))) (by dsimp only [tksA]; rw [← flat_snoc, List.length_append]; exact (tO))
      ·
       replace hc8 := hs_ hc8
       refine g_seq ?_
       refine g_region ?_
       refine gl_v rfl (o_eql rfl rfl) ?_
       refine gl_v rfl (o_assign rfl) ?_
       refine gl_nil ?_
       refine ge_then ?_
       refine g_cond rfl (fun hc15 => ?_) (fun hc15 => ?_)
       ·
        replace hc15 := hs_ hc15
        have hcd := (isc_dig c).1 (show isc c = 3 by omega)
        have hsl := spn_le isDig (l.drop x)
        rw [List.length_drop] at hsl
        have hs1 := spn_step (p := isDig) hg hcd
        refine g_seq ?_
        refine g_region ?_
        refine gl_v rfl (o_assign rfl) ?_
        refine gl_nil ?_
        refine ge_then ?_
        refine g_seq ?_
        refine g_block ?_
        refine g_loop (ι := Nat) (fun y => x ≤ y ∧ y ≤ l.length ∧ spn isDig (l.drop x) = y - x + spn isDig (l.drop y)) (fun y => [(8, I64 (num ((l.drop x).take (y - x)))), (6, I64 y), (7, I64 x), (5, .slice a X.length c0), (0, S l)]) (fun _ => tksA a c0 X :: R) (fun y => l.length - y) x (⟨Nat.le_refl _, hx, by rw [Nat.sub_self, Nat.zero_add]⟩) ((Keep.cons (by rw [Nat.sub_self]; rfl) (Keep.cons rfl (Keep.cons rfl (Keep.cons rfl (Keep.cons rfl (Keep.nil))))))) (tO) ?_
        rintro y ⟨hxy, hy, hs⟩
        replace hxy : x ≤ y := hxy
        replace hy : y ≤ l.length := hy
        replace hs : spn isDig (l.drop x) = y - x + spn isDig (l.drop y) := hs
        refine g_seq ?_
        refine g_seq ?_
        refine g_region ?_
        refine gl_v rfl (o_move rfl) ?_
        refine gl_v rfl (o_move rfl) ?_
        refine gl_v rfl (o_lens rfl) ?_
        refine gl_v rfl (o_lss rfl rfl) ?_
        refine gl_v rfl (o_move rfl) ?_
        refine gl_g rfl rfl (fun hc16 => ?_) (fun hc16 => ?_) rfl
        ·
         have hc16' := hc16
         replace hc16' := hs_ hc16'
         refine gl_v rfl (o_move rfl) ?_
         refine gl_gT rfl rfl hc16 ?_
         refine gl_v rfl (o_move rfl) ?_
         refine gl_gT rfl rfl hc16 ?_
         obtain ⟨d, hd⟩ : ∃ d, l[y]? = some d := ⟨_, List.getElem?_eq_getElem (show y < l.length by omega)⟩
         refine gl_v rfl (o_index_string rfl rfl (hd)) ?_
         refine gl_gT rfl rfl hc16 ?_
         refine gl_c rfl (o_call rfl (Is_spec d) pA) ?_
         rintro _ R ⟨_, ⟨rfl, rfl⟩, rfl⟩
         try simp only [List.cons_append, List.nil_append]
         refine gl_gT rfl rfl hc16 ?_
         refine gl_v rfl (o_eql rfl rfl) ?_
         refine gl_v rfl (o_pickT hc16 rfl rfl) ?_
         refine gl_nil ?_
         refine ge_then ?_
         refine g_cond rfl (fun hc17 => ?_) (fun hc17 => ?_)
         ·
          replace hc17 := hs_ hc17
          refine g_skip ?_
          refine ge_then ?_
          refine g_block ?_
          refine g_seq ?_
          have hN := num_le ((l.drop x).take (y - x))
          have hdd := (isc_dig d).1 (show isc d = 3 by omega)
          unfold isDig at hdd
          rw [decide_eq_true_eq] at hdd
          refine g_region ?_
          refine gl_v rfl (o_move rfl) ?_
          refine gl_v rfl (o_mulR ((10 * num ((l.drop x).take (y - x)) : Nat) : Int) (by rw [wr_i64 (by omega)]; omega) rfl rfl) ?_
          refine gl_v rfl (o_move rfl) ?_
          refine gl_v rfl (o_move rfl) ?_
          refine gl_v rfl (o_index_string rfl rfl (hd)) ?_
          refine gl_v rfl (o_subR ((d.toNat - 48 : Nat) : Int) (by rw [wr_u8 (by omega)]; omega) rfl rfl) ?_
          refine gl_v rfl (o_convR ((d.toNat - 48 : Nat) : Int) (by rw [wr_i64 (by omega)]) rfl) ?_
          refine gl_v rfl (o_addR ((10 * num ((l.drop x).take (y - x)) + (d.toNat - 48) : Nat) : Int) (by rw [wr_i64 (by omega)]; omega) rfl rfl) ?_
          refine gl_v rfl (o_min ((min (10 * num ((l.drop x).take (y - x)) + (d.toNat - 48)) 65536 : Nat) : Int) (by split <;> omega) rfl rfl) ?_
          refine gl_v rfl (o_assign rfl) ?_
          refine gl_nil ?_
          refine ge_then ?_
          refine g_region ?_
          refine gl_v rfl (o_move rfl) ?_
          refine gl_v rfl (o_addR (((y + 1 : Nat) : Int)) (by rw [wr_i64 (by omega)]; omega) rfl rfl) ?_
          refine gl_v rfl (o_assign rfl) ?_
          refine gl_nil ?_
          refine ge_block ?_
          have hq : isDig d = true := (isc_dig d).1 (by omega)
          refine ge_round (y + 1) ⟨show x ≤ y + 1 by omega, show y + 1 ≤ l.length by omega, show spn isDig (l.drop x) = y + 1 - x + spn isDig (l.drop (y + 1)) by rw [hs, spn_step hd hq]; omega⟩ (show l.length - (y + 1) < l.length - y by omega) (Keep.cons (by rw [take_snoc hxy hd, num_snoc]; rfl) (Keep.cons rfl (Keep.cons rfl (Keep.cons rfl (Keep.cons rfl (Keep.nil)))))) (tO)
         ·
          replace hc17 := hs_ hc17
          refine g_exit ?_
          refine ge_then_exit ?_
          refine ge_then_exit ?_
          refine ge_block_exit ?_
          refine ge_then ?_
          refine g_seq ?_
          refine g_seq ?_
          have hz : spn isDig (l.drop y) = 0 := by first | exact spn_end (by omega) | exact spn_no hd (dig_f (by omega))
          obtain rfl := spn_exit hs hxy hz
          rw [Nat.add_sub_cancel_left] at *
          refine g_region ?_
          refine gl_v rfl (o_move rfl) ?_
          refine gl_v rfl (o_gtr rfl rfl) ?_
          refine gl_v rfl (o_move rfl) ?_
          refine gl_g rfl rfl (fun hc18 => ?_) (fun hc18 => ?_) rfl
          ·
           have hc18' := hc18
           replace hc18' := hs_ hc18'
           refine gl_v rfl (o_move rfl) ?_
           refine gl_gT rfl rfl hc18 ?_
           refine gl_v rfl (o_move rfl) ?_
           refine gl_gT rfl rfl hc18 ?_
           refine gl_v rfl (o_lens rfl) ?_
           refine gl_gT rfl rfl hc18 ?_
           refine gl_v rfl (o_lss rfl rfl) ?_
           refine gl_gT rfl rfl hc18 ?_
           refine gl_v rfl (o_move rfl) ?_
           refine gl_g rfl rfl (fun hc19 => ?_) (fun hc19 => ?_) rfl
           ·
            have hc19' := hc19
            replace hc19' := hs_ hc19'
            refine gl_v rfl (o_move rfl) ?_
            refine gl_gT rfl rfl hc19 ?_
            refine gl_v rfl (o_move rfl) ?_
            refine gl_gT rfl rfl hc19 ?_
            obtain ⟨d2, hd2⟩ : ∃ d, l[x + spn isDig (l.drop x)]? = some d := ⟨_, List.getElem?_eq_getElem (by omega)⟩
            have hd3 : isc d2 ≠ 3 := fun e => by have := spn_step (p := isDig) hd2 ((isc_dig d2).1 e); omega
            refine gl_v rfl (o_index_string rfl rfl (hd2)) ?_
            refine gl_gT rfl rfl hc19 ?_
            refine gl_c rfl (o_call rfl (Is_spec d2) pA) ?_
            rintro _ R ⟨_, ⟨rfl, rfl⟩, rfl⟩
            try simp only [List.cons_append, List.nil_append]
            refine gl_gT rfl rfl hc19 ?_
            refine gl_v rfl (o_eql rfl rfl) ?_
            refine gl_gT rfl rfl hc19 ?_
            refine gl_v rfl (o_move rfl) ?_
            refine gl_g rfl rfl (fun hc20 => ?_) (fun hc20 => ?_) rfl
            ·
             have hc20' := hc20
             replace hc20' := hs_ hc20'
             refine gl_v rfl (o_move rfl) ?_
             refine gl_gT rfl rfl hc20 ?_
             refine gl_v rfl (o_move rfl) ?_
             refine gl_gT rfl rfl hc20 ?_
             refine gl_v rfl (o_index_string rfl rfl (hd2)) ?_
             refine gl_gT rfl rfl hc20 ?_
             refine gl_c rfl (o_call rfl (Is_spec d2) pA) ?_
             rintro _ R ⟨_, ⟨rfl, rfl⟩, rfl⟩
             try simp only [List.cons_append, List.nil_append]
             refine gl_gT rfl rfl hc20 ?_
             refine gl_v rfl (o_eql rfl rfl) ?_
             refine gl_gT rfl rfl hc19 ?_
             refine gl_v rfl (o_pickF hc20 rfl rfl) ?_
             refine gl_gT rfl rfl hc18 ?_
             refine gl_v rfl (o_pickT hc19 rfl rfl) ?_
             refine gl_v rfl (o_pickF hc18 rfl rfl) ?_
             refine gl_nil ?_
             refine ge_then ?_
             refine g_cond rfl (fun hc21 => ?_) (fun hc21 => ?_)
             ·
              replace hc21 := hs_ hc21
              refine g_seq ?_
              refine g_region ?_
              refine gl_v rfl (o_move rfl) ?_
              refine gl_v rfl (o_assign rfl) ?_
              refine gl_v rfl (o_assign rfl) ?_
              refine gl_v rfl (o_assign rfl) ?_
              refine gl_nil ?_
              refine ge_then ?_
              refine g_ret ?_
              refine ge_then_ret ?_
              refine ge_block_ret ?_
              refine ge_block_ret ?_
              refine ge_then_ret ?_
              refine ge_block_ret ?_
              refine ge_then_ret ?_
              have hE : lexAll l = .error (21, x) := by rw [← hR, step_digE hg hcd (by first | exact .inl (by omega) | exact .inr (by rw [next_is hd2]; exact (isc_in d2).2 (by omega)))]; rfl
              refine ret3 (.inl rfl) rfl rfl rfl rfl [] ⟨none, 0, by rw [hE]; rfl, by rw [hE]; rfl⟩ (tO)
             ·
              replace hc21 := hs_ hc21
              refine g_skip ?_
              refine ge_then ?_
              have hnx : nextIn (l.drop (x + spn isDig (l.drop x))) = false := by first | exact next_no (by omega) | (rw [next_is hd2]; exact in_f (by omega))
              refine g_region ?_
              refine gl_v rfl (o_move rfl) ?_
              refine gl_v rfl (o_move rfl) ?_
              refine gl_v rfl (o_move rfl) ?_
              refine gl_v rfl (o_move rfl) ?_
              refine gl_v rfl (o_strSub rfl rfl rfl (by omega) (by omega)) ?_
              rw [sub_take]
              refine gl_v rfl (o_move rfl) ?_
              refine gl_v rfl (o_move rfl) ?_
              refine gl_v rfl (o_build rfl rfl) ?_
              refine gl_n rfl (o_buildS1A (vs := tkC ⟨2, (l.drop x).take (spn isDig (l.drop x)), num ((l.drop x).take (spn isDig (l.drop x))), x⟩) rfl rfl rfl rfl) ?_
              rintro _ _ ⟨b152, rfl, rfl⟩
              refine gl_n rfl (o_append rfl rfl pA rfl rfl rfl (by omega) (by unfold maxLen; omega)) ?_
              rintro _ _ ⟨a153, c153, rfl, rfl⟩
              refine gl_v rfl (o_assign rfl) ?_
              refine gl_nil ?_
              refine ge_block ?_
              refine ge_block ?_
              refine ge_round (x + spn isDig (l.drop x), X ++ [⟨2, (l.drop x).take (spn isDig (l.drop x)), num ((l.drop x).take (spn isDig (l.drop x))), x⟩], a153, c153) ⟨show x + spn isDig (l.drop x) ≤ l.length by omega, show (X ++ [_]).length ≤ x + spn isDig (l.drop x) by rw [List.length_append]; simp; omega, pre_step hR (step_dig hg hcd (by omega) hnx)⟩ (show l.length - (x + spn isDig (l.drop x)) < l.length - x by omega) (Keep.cons rfl (Keep.cons (by rw [List.length_append]; rfl) (Keep.cons rfl Keep.nil))) (by dsimp only [tksA]; rw [← flat_snoc, List.length_append]; exact (tO))
            ·
             have hc20' := hc20
             replace hc20' := hs_ hc20'
             simp only [putO]
             refine gl_gF rfl rfl hc20 rfl ?_
             refine gl_gF rfl rfl hc20 rfl ?_
             refine gl_gF rfl rfl hc20 rfl ?_
             refine gl_gF rfl rfl hc20 rfl ?_
             refine gl_gT rfl rfl hc19 ?_
             refine gl_v rfl (o_pickT hc20 rfl rfl) ?_
             refine gl_gT rfl rfl hc18 ?_
             refine gl_v rfl (o_pickT hc19 rfl rfl) ?_
             refine gl_v rfl (o_pickF hc18 rfl rfl) ?_
             refine gl_nil ?_
             refine ge_then ?_
             refine g_cond_true rfl ?_
             refine g_seq ?_
             refine g_region ?_
             refine gl_v rfl (o_move rfl) ?_
             refine gl_v rfl (o_assign rfl) ?_
             refine gl_v rfl (o_assign rfl) ?_
             refine gl_v rfl (o_assign rfl) ?_
             refine gl_nil ?_
             refine ge_then ?_
             refine g_ret ?_
             refine ge_then_ret ?_
             refine ge_block_ret ?_
             refine ge_block_ret ?_
             refine ge_then_ret ?_
             refine ge_block_ret ?_
             refine ge_then_ret ?_
             have hE : lexAll l = .error (21, x) := by rw [← hR, step_digE hg hcd (by first | exact .inl (by omega) | exact .inr (by rw [next_is hd2]; exact (isc_in d2).2 (by omega)))]; rfl
             refine ret3 (.inl rfl) rfl rfl rfl rfl [] ⟨none, 0, by rw [hE]; rfl, by rw [hE]; rfl⟩ (tO)
           ·
            have hc19' := hc19
            replace hc19' := hs_ hc19'
            simp only [putO]
            refine gl_gF rfl rfl hc19 rfl ?_
            refine gl_gF rfl rfl hc19 rfl ?_
            refine gl_gF rfl rfl hc19 rfl ?_
            refine gl_gF rfl rfl hc19 rfl ?_
            refine gl_gF rfl rfl hc19 rfl ?_
            refine gl_gU rfl rfl rfl ?_
            refine gl_gU rfl rfl rfl ?_
            refine gl_gU rfl rfl rfl ?_
            refine gl_gU rfl rfl rfl ?_
            refine gl_gU rfl rfl rfl ?_
            refine gl_gF rfl rfl hc19 rfl ?_
            refine gl_gT rfl rfl hc18 ?_
            refine gl_v rfl (o_pickF hc19 rfl rfl) ?_
            refine gl_v rfl (o_pickF hc18 rfl rfl) ?_
            refine gl_nil ?_
            refine ge_then ?_
            refine g_cond_false rfl ?_
            refine g_skip ?_
            refine ge_then ?_
            have hnx : nextIn (l.drop (x + spn isDig (l.drop x))) = false := by first | exact next_no (by omega) | (rw [next_is hd2]; exact in_f (by omega))
            refine g_region ?_
            refine gl_v rfl (o_move rfl) ?_
            refine gl_v rfl (o_move rfl) ?_
            refine gl_v rfl (o_move rfl) ?_
            refine gl_v rfl (o_move rfl) ?_
            refine gl_v rfl (o_strSub rfl rfl rfl (by omega) (by omega)) ?_
            rw [sub_take]
            refine gl_v rfl (o_move rfl) ?_
            refine gl_v rfl (o_move rfl) ?_
            refine gl_v rfl (o_build rfl rfl) ?_
            refine gl_n rfl (o_buildS1A (vs := tkC ⟨2, (l.drop x).take (spn isDig (l.drop x)), num ((l.drop x).take (spn isDig (l.drop x))), x⟩) rfl rfl rfl rfl) ?_
            rintro _ _ ⟨b152, rfl, rfl⟩
            refine gl_n rfl (o_append rfl rfl pA rfl rfl rfl (by omega) (by unfold maxLen; omega)) ?_
            rintro _ _ ⟨a153, c153, rfl, rfl⟩
            refine gl_v rfl (o_assign rfl) ?_
            refine gl_nil ?_
            refine ge_block ?_
            refine ge_block ?_
            refine ge_round (x + spn isDig (l.drop x), X ++ [⟨2, (l.drop x).take (spn isDig (l.drop x)), num ((l.drop x).take (spn isDig (l.drop x))), x⟩], a153, c153) ⟨show x + spn isDig (l.drop x) ≤ l.length by omega, show (X ++ [_]).length ≤ x + spn isDig (l.drop x) by rw [List.length_append]; simp; omega, pre_step hR (step_dig hg hcd (by omega) hnx)⟩ (show l.length - (x + spn isDig (l.drop x)) < l.length - x by omega) (Keep.cons rfl (Keep.cons (by rw [List.length_append]; rfl) (Keep.cons rfl Keep.nil))) (by dsimp only [tksA]; rw [← flat_snoc, List.length_append]; exact (tO))
          ·
           have hc18' := hc18
           replace hc18' := hs_ hc18'
           simp only [putO]
           refine gl_gF rfl rfl hc18 rfl ?_
           refine gl_gF rfl rfl hc18 rfl ?_
           refine gl_gF rfl rfl hc18 rfl ?_
           refine gl_gF rfl rfl hc18 rfl ?_
           refine gl_gU rfl rfl rfl ?_
           refine gl_gU rfl rfl rfl ?_
           refine gl_gU rfl rfl rfl ?_
           refine gl_gU rfl rfl rfl ?_
           refine gl_gU rfl rfl rfl ?_
           refine gl_gU rfl rfl rfl ?_
           refine gl_gU rfl rfl rfl ?_
           refine gl_gU rfl rfl rfl ?_
           refine gl_gU rfl rfl rfl ?_
           refine gl_gU rfl rfl rfl ?_
           refine gl_gU rfl rfl rfl ?_
           refine gl_gU rfl rfl rfl ?_
           refine gl_gF rfl rfl hc18 rfl ?_
           refine gl_v rfl (o_pickT hc18 rfl rfl) ?_
           refine gl_nil ?_
           refine ge_then ?_
           refine g_cond_true rfl ?_
           refine g_seq ?_
           refine g_region ?_
           refine gl_v rfl (o_move rfl) ?_
           refine gl_v rfl (o_assign rfl) ?_
           refine gl_v rfl (o_assign rfl) ?_
           refine gl_v rfl (o_assign rfl) ?_
           refine gl_nil ?_
           refine ge_then ?_
           refine g_ret ?_
           refine ge_then_ret ?_
           refine ge_block_ret ?_
           refine ge_block_ret ?_
           refine ge_then_ret ?_
           refine ge_block_ret ?_
           refine ge_then_ret ?_
           have hE : lexAll l = .error (21, x) := by rw [← hR, step_digE hg hcd (by first | exact .inl (by omega) | exact .inr (by rw [next_is hd2]; exact (isc_in d2).2 (by omega)))]; rfl
           refine ret3 (.inl rfl) rfl rfl rfl rfl [] ⟨none, 0, by rw [hE]; rfl, by rw [hE]; rfl⟩ (tO)
        ·
         have hc16' := hc16
         replace hc16' := hs_ hc16'
         simp only [putO]
         refine gl_gF rfl rfl hc16 rfl ?_
         refine gl_gF rfl rfl hc16 rfl ?_
         refine gl_gF rfl rfl hc16 rfl ?_
         refine gl_gF rfl rfl hc16 rfl ?_
         refine gl_v rfl (o_pickF hc16 rfl rfl) ?_
         refine gl_nil ?_
         refine ge_then ?_
         refine g_cond_false rfl ?_
         refine g_exit ?_
         refine ge_then_exit ?_
         refine ge_then_exit ?_
         refine ge_block_exit ?_
         refine ge_then ?_
         refine g_seq ?_
         refine g_seq ?_
         have hz : spn isDig (l.drop y) = 0 := by first | exact spn_end (by omega) | exact spn_no hd (dig_f (by omega))
         obtain rfl := spn_exit hs hxy hz
         rw [Nat.add_sub_cancel_left] at *
         refine g_region ?_
         refine gl_v rfl (o_move rfl) ?_
         refine gl_v rfl (o_gtr rfl rfl) ?_
         refine gl_v rfl (o_move rfl) ?_
         refine gl_g rfl rfl (fun hc22 => ?_) (fun hc22 => ?_) rfl
         ·
          have hc22' := hc22
          replace hc22' := hs_ hc22'
          refine gl_v rfl (o_move rfl) ?_
          refine gl_gT rfl rfl hc22 ?_
          refine gl_v rfl (o_move rfl) ?_
          refine gl_gT rfl rfl hc22 ?_
          refine gl_v rfl (o_lens rfl) ?_
          refine gl_gT rfl rfl hc22 ?_
          refine gl_v rfl (o_lss rfl rfl) ?_
          refine gl_gT rfl rfl hc22 ?_
          refine gl_v rfl (o_move rfl) ?_
          refine gl_g rfl rfl (fun hc23 => ?_) (fun hc23 => ?_) rfl
          ·
           have hc23' := hc23
           replace hc23' := hs_ hc23'
           refine gl_v rfl (o_move rfl) ?_
           refine gl_gT rfl rfl hc23 ?_
           refine gl_v rfl (o_move rfl) ?_
           refine gl_gT rfl rfl hc23 ?_
           obtain ⟨d2, hd2⟩ : ∃ d, l[x + spn isDig (l.drop x)]? = some d := ⟨_, List.getElem?_eq_getElem (by omega)⟩
           have hd3 : isc d2 ≠ 3 := fun e => by have := spn_step (p := isDig) hd2 ((isc_dig d2).1 e); omega
           refine gl_v rfl (o_index_string rfl rfl (hd2)) ?_
           refine gl_gT rfl rfl hc23 ?_
           refine gl_c rfl (o_call rfl (Is_spec d2) pA) ?_
           rintro _ R ⟨_, ⟨rfl, rfl⟩, rfl⟩
           try simp only [List.cons_append, List.nil_append]
           refine gl_gT rfl rfl hc23 ?_
           refine gl_v rfl (o_eql rfl rfl) ?_
           refine gl_gT rfl rfl hc23 ?_
           refine gl_v rfl (o_move rfl) ?_
           refine gl_g rfl rfl (fun hc24 => ?_) (fun hc24 => ?_) rfl
           ·
            have hc24' := hc24
            replace hc24' := hs_ hc24'
            refine gl_v rfl (o_move rfl) ?_
            refine gl_gT rfl rfl hc24 ?_
            refine gl_v rfl (o_move rfl) ?_
            refine gl_gT rfl rfl hc24 ?_
            refine gl_v rfl (o_index_string rfl rfl (hd2)) ?_
            refine gl_gT rfl rfl hc24 ?_
            refine gl_c rfl (o_call rfl (Is_spec d2) pA) ?_
            rintro _ R ⟨_, ⟨rfl, rfl⟩, rfl⟩
            try simp only [List.cons_append, List.nil_append]
            refine gl_gT rfl rfl hc24 ?_
            refine gl_v rfl (o_eql rfl rfl) ?_
            refine gl_gT rfl rfl hc23 ?_
            refine gl_v rfl (o_pickF hc24 rfl rfl) ?_
            refine gl_gT rfl rfl hc22 ?_
            refine gl_v rfl (o_pickT hc23 rfl rfl) ?_
            refine gl_v rfl (o_pickF hc22 rfl rfl) ?_
            refine gl_nil ?_
            refine ge_then ?_
            refine g_cond rfl (fun hc25 => ?_) (fun hc25 => ?_)
            ·
             replace hc25 := hs_ hc25
             refine g_seq ?_
             refine g_region ?_
             refine gl_v rfl (o_move rfl) ?_
             refine gl_v rfl (o_assign rfl) ?_
             refine gl_v rfl (o_assign rfl) ?_
             refine gl_v rfl (o_assign rfl) ?_
             refine gl_nil ?_
             refine ge_then ?_
             refine g_ret ?_
             refine ge_then_ret ?_
             refine ge_block_ret ?_
             refine ge_block_ret ?_
             refine ge_then_ret ?_
             refine ge_block_ret ?_
             refine ge_then_ret ?_
             have hE : lexAll l = .error (21, x) := by rw [← hR, step_digE hg hcd (by first | exact .inl (by omega) | exact .inr (by rw [next_is hd2]; exact (isc_in d2).2 (by omega)))]; rfl
             refine ret3 (.inl rfl) rfl rfl rfl rfl [] ⟨none, 0, by rw [hE]; rfl, by rw [hE]; rfl⟩ (tO)
            ·
             replace hc25 := hs_ hc25
             refine g_skip ?_
             refine ge_then ?_
             have hnx : nextIn (l.drop (x + spn isDig (l.drop x))) = false := by first | exact next_no (by omega) | (rw [next_is hd2]; exact in_f (by omega))
             refine g_region ?_
             refine gl_v rfl (o_move rfl) ?_
             refine gl_v rfl (o_move rfl) ?_
             refine gl_v rfl (o_move rfl) ?_
             refine gl_v rfl (o_move rfl) ?_
             refine gl_v rfl (o_strSub rfl rfl rfl (by omega) (by omega)) ?_
             rw [sub_take]
             refine gl_v rfl (o_move rfl) ?_
             refine gl_v rfl (o_move rfl) ?_
             refine gl_v rfl (o_build rfl rfl) ?_
             refine gl_n rfl (o_buildS1A (vs := tkC ⟨2, (l.drop x).take (spn isDig (l.drop x)), num ((l.drop x).take (spn isDig (l.drop x))), x⟩) rfl rfl rfl rfl) ?_
             rintro _ _ ⟨b152, rfl, rfl⟩
             refine gl_n rfl (o_append rfl rfl pA rfl rfl rfl (by omega) (by unfold maxLen; omega)) ?_
             rintro _ _ ⟨a153, c153, rfl, rfl⟩
             refine gl_v rfl (o_assign rfl) ?_
             refine gl_nil ?_
             refine ge_block ?_
             refine ge_block ?_
             refine ge_round (x + spn isDig (l.drop x), X ++ [⟨2, (l.drop x).take (spn isDig (l.drop x)), num ((l.drop x).take (spn isDig (l.drop x))), x⟩], a153, c153) ⟨show x + spn isDig (l.drop x) ≤ l.length by omega, show (X ++ [_]).length ≤ x + spn isDig (l.drop x) by rw [List.length_append]; simp; omega, pre_step hR (step_dig hg hcd (by omega) hnx)⟩ (show l.length - (x + spn isDig (l.drop x)) < l.length - x by omega) (Keep.cons rfl (Keep.cons (by rw [List.length_append]; rfl) (Keep.cons rfl Keep.nil))) (by dsimp only [tksA]; rw [← flat_snoc, List.length_append]; exact (tO))
           ·
            have hc24' := hc24
            replace hc24' := hs_ hc24'
            simp only [putO]
            refine gl_gF rfl rfl hc24 rfl ?_
            refine gl_gF rfl rfl hc24 rfl ?_
            refine gl_gF rfl rfl hc24 rfl ?_
            refine gl_gF rfl rfl hc24 rfl ?_
            refine gl_gT rfl rfl hc23 ?_
            refine gl_v rfl (o_pickT hc24 rfl rfl) ?_
            refine gl_gT rfl rfl hc22 ?_
            refine gl_v rfl (o_pickT hc23 rfl rfl) ?_
            refine gl_v rfl (o_pickF hc22 rfl rfl) ?_
            refine gl_nil ?_
            refine ge_then ?_
            refine g_cond_true rfl ?_
            refine g_seq ?_
            refine g_region ?_
            refine gl_v rfl (o_move rfl) ?_
            refine gl_v rfl (o_assign rfl) ?_
            refine gl_v rfl (o_assign rfl) ?_
            refine gl_v rfl (o_assign rfl) ?_
            refine gl_nil ?_
            refine ge_then ?_
            refine g_ret ?_
            refine ge_then_ret ?_
            refine ge_block_ret ?_
            refine ge_block_ret ?_
            refine ge_then_ret ?_
            refine ge_block_ret ?_
            refine ge_then_ret ?_
            have hE : lexAll l = .error (21, x) := by rw [← hR, step_digE hg hcd (by first | exact .inl (by omega) | exact .inr (by rw [next_is hd2]; exact (isc_in d2).2 (by omega)))]; rfl
            refine ret3 (.inl rfl) rfl rfl rfl rfl [] ⟨none, 0, by rw [hE]; rfl, by rw [hE]; rfl⟩ (tO)
          ·
           have hc23' := hc23
           replace hc23' := hs_ hc23'
           simp only [putO]
           refine gl_gF rfl rfl hc23 rfl ?_
           refine gl_gF rfl rfl hc23 rfl ?_
           refine gl_gF rfl rfl hc23 rfl ?_
           refine gl_gF rfl rfl hc23 rfl ?_
           refine gl_gF rfl rfl hc23 rfl ?_
           refine gl_gU rfl rfl rfl ?_
           refine gl_gU rfl rfl rfl ?_
           refine gl_gU rfl rfl rfl ?_
           refine gl_gU rfl rfl rfl ?_
           refine gl_gU rfl rfl rfl ?_
           refine gl_gF rfl rfl hc23 rfl ?_
           refine gl_gT rfl rfl hc22 ?_
           refine gl_v rfl (o_pickF hc23 rfl rfl) ?_
           refine gl_v rfl (o_pickF hc22 rfl rfl) ?_
           refine gl_nil ?_
           refine ge_then ?_
           refine g_cond_false rfl ?_
           refine g_skip ?_
           refine ge_then ?_
           have hnx : nextIn (l.drop (x + spn isDig (l.drop x))) = false := by first | exact next_no (by omega) | (rw [next_is hd2]; exact in_f (by omega))
           refine g_region ?_
           refine gl_v rfl (o_move rfl) ?_
           refine gl_v rfl (o_move rfl) ?_
           refine gl_v rfl (o_move rfl) ?_
           refine gl_v rfl (o_move rfl) ?_
           refine gl_v rfl (o_strSub rfl rfl rfl (by omega) (by omega)) ?_
           rw [sub_take]
           refine gl_v rfl (o_move rfl) ?_
           refine gl_v rfl (o_move rfl) ?_
           refine gl_v rfl (o_build rfl rfl) ?_
           refine gl_n rfl (o_buildS1A (vs := tkC ⟨2, (l.drop x).take (spn isDig (l.drop x)), num ((l.drop x).take (spn isDig (l.drop x))), x⟩) rfl rfl rfl rfl) ?_
           rintro _ _ ⟨b152, rfl, rfl⟩
           refine gl_n rfl (o_append rfl rfl pA rfl rfl rfl (by omega) (by unfold maxLen; omega)) ?_
           rintro _ _ ⟨a153, c153, rfl, rfl⟩
           refine gl_v rfl (o_assign rfl) ?_
           refine gl_nil ?_
           refine ge_block ?_
           refine ge_block ?_
           refine ge_round (x + spn isDig (l.drop x), X ++ [⟨2, (l.drop x).take (spn isDig (l.drop x)), num ((l.drop x).take (spn isDig (l.drop x))), x⟩], a153, c153) ⟨show x + spn isDig (l.drop x) ≤ l.length by omega, show (X ++ [_]).length ≤ x + spn isDig (l.drop x) by rw [List.length_append]; simp; omega, pre_step hR (step_dig hg hcd (by omega) hnx)⟩ (show l.length - (x + spn isDig (l.drop x)) < l.length - x by omega) (Keep.cons rfl (Keep.cons (by rw [List.length_append]; rfl) (Keep.cons rfl Keep.nil))) (by dsimp only [tksA]; rw [← flat_snoc, List.length_append]; exact (tO))
         ·
          have hc22' := hc22
          replace hc22' := hs_ hc22'
          simp only [putO]
          refine gl_gF rfl rfl hc22 rfl ?_
          refine gl_gF rfl rfl hc22 rfl ?_
          refine gl_gF rfl rfl hc22 rfl ?_
          refine gl_gF rfl rfl hc22 rfl ?_
          refine gl_gU rfl rfl rfl ?_
          refine gl_gU rfl rfl rfl ?_
          refine gl_gU rfl rfl rfl ?_
          refine gl_gU rfl rfl rfl ?_
          refine gl_gU rfl rfl rfl ?_
          refine gl_gU rfl rfl rfl ?_
          refine gl_gU rfl rfl rfl ?_
          refine gl_gU rfl rfl rfl ?_
          refine gl_gU rfl rfl rfl ?_
          refine gl_gU rfl rfl rfl ?_
          refine gl_gU rfl rfl rfl ?_
          refine gl_gU rfl rfl rfl ?_
          refine gl_gF rfl rfl hc22 rfl ?_
          refine gl_v rfl (o_pickT hc22 rfl rfl) ?_
          refine gl_nil ?_
          refine ge_then ?_
          refine g_cond_true rfl ?_
          refine g_seq ?_
          refine g_region ?_
          refine gl_v rfl (o_move rfl) ?_
          refine gl_v rfl (o_assign rfl) ?_
          refine gl_v rfl (o_assign rfl) ?_
          refine gl_v rfl (o_assign rfl) ?_
          refine gl_nil ?_
          refine ge_then ?_
          refine g_ret ?_
          refine ge_then_ret ?_
          refine ge_block_ret ?_
          refine ge_block_ret ?_
          refine ge_then_ret ?_
          refine ge_block_ret ?_
          refine ge_then_ret ?_
          have hE : lexAll l = .error (21, x) := by rw [← hR, step_digE hg hcd (by first | exact .inl (by omega) | exact .inr (by rw [next_is hd2]; exact (isc_in d2).2 (by omega)))]; rfl
          refine ret3 (.inl rfl) rfl rfl rfl rfl [] ⟨none, 0, by rw [hE]; rfl, by rw [hE]; rfl⟩ (tO)
       ·
        replace hc15 := hs_ hc15
        refine g_seq ?_
        refine g_region ?_
        refine gl_v rfl (o_move rfl) ?_
        refine gl_v rfl (o_assign rfl) ?_
        refine gl_v rfl (o_assign rfl) ?_
        refine gl_v rfl (o_assign rfl) ?_
        refine gl_nil ?_
        refine ge_then ?_
        refine g_ret ?_
        refine ge_block_ret ?_
        refine ge_block_ret ?_
        refine ge_then_ret ?_
        refine ge_block_ret ?_
        refine ge_then_ret ?_
        have hE : lexAll l = .error (20, x) := by rw [← hR, step_bad hg (blank_f' (by omega)) (hash_f (by omega)) (let_f (by omega)) (dig_f (by omega)) (sign_f (by omega))]; rfl
        refine ret3 (.inl rfl) rfl rfl rfl rfl [] ⟨none, 0, by rw [hE]; rfl, by rw [hE]; rfl⟩ (tO)
  ·
   replace hc2 := hs_ hc2
   obtain rfl : x = l.length := by omega
   rw [List.drop_length, lex_nil] at hR
   refine g_exit ?_
   refine ge_then_exit ?_
   refine ge_then_exit ?_
   refine ge_block_exit ?_
   refine ge_then ?_
   refine g_seq ?_
   refine g_region ?_
   refine gl_v rfl (o_move rfl) ?_
   refine gl_v rfl (o_assign rfl) ?_
   refine gl_v rfl (o_assign rfl) ?_
   refine gl_v rfl (o_assign rfl) ?_
   refine gl_nil ?_
   refine ge_then ?_
   refine g_ret ?_
   have hE : lexAll l = .ok X := by rw [← hR]; simp [pre]
   refine ret3 (.inl rfl) rfl rfl rfl rfl [tksA a c0 X] ⟨a, c0, by rw [hE]; rfl, by rw [hE]; rfl⟩ (tO)

theorem dec_step {n m : Nat} {s : By} (h : dec n = dec m ++ s) (hm : ¬ m < 10) : dec n = dec (m / 10) ++ (UInt8.ofNat (48 + m % 10) :: s) := by
  rw [h, dec.eq_1 m, if_neg hm]; simp
theorem dec_last {n m : Nat} {s : By} (h : dec n = dec m ++ s) (hm : m < 10) : dec n = UInt8.ofNat (48 + m % 10) :: s := by
  rw [h, dec.eq_1 m, if_pos hm, Nat.mod_eq_of_lt hm]; rfl
theorem tmodn (s n : Nat) : (s : Int).tmod n = ((s % n : Nat) : Int) := by rw [Int.tmod_eq_emod_of_nonneg (by omega)]; exact (Int.natCast_emod s n).symm
theorem tdivn (s n : Nat) : (s : Int).tdiv n = ((s / n : Nat) : Int) := by rw [Int.tdiv_eq_ediv_of_nonneg (by omega)]; exact (Int.natCast_ediv s n).symm
theorem dec_pow {m i n : Nat} (h : m * 10 ^ i ≤ n) : m / 10 * 10 ^ (i + 1) ≤ n := by
  have h2 := Nat.mul_le_mul_right (10 ^ i) (Nat.div_mul_le_self m 10)
  rw [Nat.pow_succ, Nat.mul_comm (10 ^ i) 10, ← Nat.mul_assoc]; exact Nat.le_trans h2 h
theorem dec_len (n : Nat) : ∀ k, n < 10 ^ (k + 1) → (dec n).length ≤ k + 1 := by
  induction n using Nat.strongRecOn with
  | _ n ih =>
    intro k hk
    rw [dec]
    split
    · simp
    · cases k with
      | zero => omega
      | succ k =>
        have := ih (n / 10) (by omega) k (by rw [Nat.pow_succ] at hk; omega)
        rw [List.length_append, List.length_singleton]; omega

set_option maxRecDepth 8000 in
set_option maxHeartbeats 200000 in
theorem Decimal_spec (n : Nat) (hn : n < 9223372036854775808) : FnS Tryz.prog 39 [I64 n] [] (fun u Bs => u = S (dec n) ∧ Bs = []) := by
 refine fn_body Tryz.func39 rfl rfl rfl ?_
 intro W0 R
 simp only [List.zipIdx_cons, List.zipIdx_nil, List.map_cons, List.map_nil, Nat.zero_add, Nat.reduceAdd, List.cons_append, List.nil_append]
 have hdl := dec_len n 18 (by omega)
 refine g_seq ?_
 refine g_region ?_
 refine gl_v rfl (o_assign rfl) ?_
 refine gl_nil ?_
 refine ge_then ?_
 refine g_seq ?_
 refine g_region ?_
 refine gl_v rfl (o_assign rfl) ?_
 refine gl_nil ?_
 refine ge_then ?_
 refine g_seq ?_
 refine g_seq ?_
 refine g_region ?_
 refine gl_v rfl (o_assign rfl) ?_
 refine gl_nil ?_
 refine ge_then ?_
 refine g_block ?_
 refine g_loop (ι := Nat × Nat × By) (fun z => z.1 ≤ 20 ∧ (z.1 = 0 ∨ 0 < z.2.1) ∧ z.2.1 * 10 ^ z.1 ≤ n ∧ dec n = dec z.2.1 ++ z.2.2) (fun z => [(4, I64 z.1), (3, S z.2.2), (0, I64 z.2.1)]) (fun _ => R) (fun z => 20 - z.1) (0, n, []) (⟨Nat.zero_le _, .inl rfl, by simp, by simp⟩) (Keep.cons rfl (Keep.cons rfl (Keep.cons rfl (Keep.nil)))) (tO) ?_
 rintro ⟨i, m, s⟩ ⟨hi, hm0, hmn, hdn⟩
 replace hi : i ≤ 20 := hi
 replace hm0 : i = 0 ∨ 0 < m := hm0
 replace hmn : m * 10 ^ i ≤ n := hmn
 replace hdn : dec n = dec m ++ s := hdn
 have hmm : m ≤ n := by have h1 : 1 ≤ 10 ^ i := Nat.one_le_pow _ _ (by decide); exact Nat.le_trans (by have := Nat.mul_le_mul_left m h1; omega) hmn
 have hsl : s.length ≤ 19 := by have := congrArg List.length hdn; rw [List.length_append] at this; omega
 have h1i : (UInt8.ofNat (48 + m % 10)).toNat = 48 + m % 10 := dig_nat (by omega)
 refine g_seq ?_
 refine g_seq ?_
 refine g_region ?_
 refine gl_v rfl (o_move rfl) ?_
 refine gl_v rfl (o_lss rfl rfl) ?_
 refine gl_nil ?_
 refine ge_then ?_
 refine g_cond rfl (fun hc1 => ?_) (fun hc1 => ?_)
 ·
  replace hc1 := hs_ hc1
  refine g_skip ?_
  refine ge_then ?_
  refine g_seq ?_
  refine g_block ?_
  refine g_seq ?_
  refine g_region ?_
  refine gl_v rfl (o_move rfl) ?_
  refine gl_v rfl (o_remR ((m % 10 : Nat) : Int) (tmodn m 10) rfl rfl (by decide)) ?_
  refine gl_v rfl (o_addR ((48 + m % 10 : Nat) : Int) (by rw [wr_i64 (by omega)]; omega) rfl rfl) ?_
  refine gl_v rfl (o_convR (((UInt8.ofNat (48 + m % 10)).toNat : Int)) (by rw [wr_u8 (by omega), h1i]) rfl) ?_
  first | refine gl_n rfl (o_buildS1 rfl rfl rfl) ?_ | refine gl_n rfl (o_buildS1A rfl rfl rfl rfl) ?_ | refine gl_n rfl (o_buildS rfl rfl rfl rfl) ?_
  rintro _ _ ⟨b13, rfl, rfl⟩
  refine gl_v rfl (o_bstr [UInt8.ofNat (48 + m % 10)] rfl rfl rfl) ?_
  refine gl_v rfl (o_move rfl) ?_
  refine gl_v rfl (o_adds rfl rfl (by simp only [List.length_cons, List.length_nil]; omega)) ?_
  refine gl_v rfl (o_assign rfl) ?_
  refine gl_nil ?_
  refine ge_then ?_
  refine g_seq ?_
  refine g_region ?_
  refine gl_v rfl (o_move rfl) ?_
  refine gl_v rfl (o_quoR ((m / 10 : Nat) : Int) (by rw [show ((m : Int)).tdiv 10 = ((m / 10 : Nat) : Int) from tdivn m 10]; exact wr_i64 (by omega)) rfl rfl (by decide)) ?_
  refine gl_v rfl (o_assign rfl) ?_
  refine gl_nil ?_
  refine ge_then ?_
  refine g_seq ?_
  refine g_region ?_
  refine gl_v rfl (o_move rfl) ?_
  refine gl_v rfl (o_eql rfl rfl) ?_
  refine gl_nil ?_
  refine ge_then ?_
  refine g_cond rfl (fun hc2 => ?_) (fun hc2 => ?_)
  ·
   replace hc2 := hs_ hc2
   refine g_exit ?_
   refine ge_block_pass rfl ?_
   refine ge_then_exit ?_
   refine ge_then_exit ?_
   refine ge_block_exit ?_
   refine ge_then ?_
   refine g_seq ?_
   refine g_region ?_
   refine gl_v rfl (o_move rfl) ?_
   refine gl_v rfl (o_assign rfl) ?_
   refine gl_nil ?_
   refine ge_then ?_
   refine g_ret ?_
   refine ret1 (.inl rfl) rfl rfl _ (⟨by rw [dec_last hdn (by omega)]; rfl, rfl⟩) (tO)
  ·
   replace hc2 := hs_ hc2
   refine g_skip ?_
   refine ge_block ?_
   refine ge_then ?_
   refine g_region ?_
   refine gl_v rfl (o_move rfl) ?_
   refine gl_v rfl (o_addR (((i + 1 : Nat) : Int)) (by rw [wr_i64 (by omega)]; omega) rfl rfl) ?_
   refine gl_v rfl (o_assign rfl) ?_
   refine gl_nil ?_
   refine ge_round (i + 1, m / 10, UInt8.ofNat (48 + m % 10) :: s) ⟨show i + 1 ≤ 20 by omega, .inr (show 0 < m / 10 by omega), dec_pow hmn, dec_step hdn (by omega)⟩ (show 20 - (i + 1) < 20 - i by omega) (Keep.cons rfl (Keep.cons rfl (Keep.cons rfl (Keep.nil)))) (tO)
 ·
  replace hc1 := hs_ hc1
  (obtain rfl : i = 20 := by omega); exfalso; have : m * 10 ^ 20 ≤ n := hmn; omega

end Go.Proofs.YtgkjnilckmminaaGreatDoor.L
