/-
  Parse: the reference's reader of programs: words, tokens, effects, rows. Own work, printed in part by a program of its own.
-/
import Derived.Test.YtgkjnilckmminaaGreatDoorParT
import Derived.Test.YtgkjnilckmminaaGreatDoorParA
set_option linter.unusedSimpArgs false
set_option linter.unusedVariables false
set_option linter.unusedSectionVars false
namespace Go.Proofs.YtgkjnilckmminaaGreatDoor.L
open Go.L Go.L.Lx Go.L.Pg Go.L.Pa
theorem verbZ {d : Int} (h1 : ¬ d = 1) (h2 : ¬ d = 2) (h3 : ¬ d = 3) (h4 : ¬ d = 4) (h5 : ¬ d = 5) (h6 : ¬ d = 6) (h7 : ¬ d = 7) (h8 : ¬ d = 8) (h9 : ¬ d = 9) (h10 : ¬ d = 10) (h11 : ¬ d = 11) (h12 : ¬ d = 12) : verb d = ([], []) := by
  unfold verb
  rw [if_neg h1, if_neg h2, if_neg h3, if_neg h4, if_neg h5, if_neg h6, if_neg h7, if_neg h8, if_neg h9, if_neg h10, if_neg h11, if_neg h12]
theorem VB_vb {i : Nat} {q : By × By} (h : VB[i]? = some q) : verb ((i + 1 : Nat) : Int) = q := by
  have hi : i < 12 := by have := (List.getElem?_eq_some_iff.1 h).1; rwa [VB_len] at this
  unfold VB at h
  rw [List.getElem?_map, List.getElem?_range hi] at h
  exact Option.some.inj h
theorem VB_sm : ∀ q ∈ VB, q.2.length ≤ 3 := by decide
def wordR (d : Int) : By := if d = 1 then dirs.getD 0 [] else if d = 2 then dirs.getD 1 [] else if d = 3 then dirs.getD 2 [] else if d = 4 then dirs.getD 3 [] else []
/-- a text that is read -/
abbrev txt (p : Nat) (la : Option Addr) (lc : Nat) (L : List Tk) (σ : Sg) : Assn := cel p 71 [.slice la L.length lc, I64 ((L.length - σ.1.length : Nat) : Int), .bool σ.2]
theorem at_cons {L T : List Tk} {t : Tk} (hs : Suf (t :: T) L) : L[L.length - (t :: T).length]? = some t := by
  have h := congrArg (fun l : List Tk => l[0]?) hs.2
  simp only [List.getElem?_cons_zero, List.getElem?_drop, Nat.add_zero] at h
  exact h.symm
def wordS (s : By) (σ : Sg) : Sg := if wordB s σ then (σ.1.tail, σ.2) else σ
theorem wordS_T {s : By} {σ : Sg} (h : wordB s σ = true) : wordS s σ = (σ.1.tail, σ.2) := by unfold wordS; rw [h]; rfl
theorem wordS_F {s : By} {σ : Sg} (h : wordB s σ = false) : wordS s σ = σ := by unfold wordS; rw [h]; rfl
theorem sv_word (s : By) (σ : Sg) : Suf (wordS s σ).1 σ.1 := by
  unfold wordS; split
  · exact Suf.tail _
  · exact Suf.refl _
theorem wordB_cons (s : By) (t : Tk) (T : List Tk) : wordB s (t :: T, false) = (!decide (t.kind = 2) && decide (t.text = s)) := rfl
theorem oneB_cons (k : Nat) (t : Tk) (T : List Tk) : oneB k (t :: T, false) = decide (t.kind = k) := rfl
theorem sg_cases (σ : Sg) : (∃ T, σ = (T, true)) ∨ σ = ([], false) ∨ ∃ t T, σ = (t :: T, false) := by
  obtain ⟨T, b⟩ := σ
  cases b with
  | true => exact .inl ⟨T, rfl⟩
  | false => cases T with
    | nil => exact .inr (.inl rfl)
    | cons t T => exact .inr (.inr ⟨t, T, rfl⟩)
theorem snoc_all {α : Type} {p : α → Prop} {l : List α} {x : α} (h : ∀ y ∈ l, p y) (hx : p x) : ∀ y ∈ l ++ [x], p y := fun y hy => by
  rcases List.mem_append.1 hy with hy | hy
  · exact h y hy
  · rw [List.mem_singleton.1 hy]; exact hx
theorem sb_le (b : Bool) : (if b then 1 else 0 : Nat) ≤ 1 := by cases b <;> decide
theorem mS_lt {σ σ' : Sg} (hb : σ.2 = false) (h : (σ'.2 = false → σ'.1.length < σ.1.length) ∧ σ'.1.length ≤ σ.1.length) : mS σ' < mS σ := by
  unfold mS; rw [hb]
  cases h2 : σ'.2 with
  | true => have := h.2; simp only [if_true, Bool.false_eq_true, if_false]; omega
  | false => have := h.1 h2; simp only [Bool.false_eq_true, if_false]; omega
/-- a round of a loop keeps the count -/
theorem cnt_ok {n m : Nat} {σ σ' : Sg} (hb : σ.2 = false) (h : (σ'.2 = false → σ'.1.length < σ.1.length) ∧ σ'.1.length ≤ σ.1.length) (hn : n + σ.1.length ≤ m + (if σ.2 then 1 else 0)) : n + 1 + σ'.1.length ≤ m + (if σ'.2 then 1 else 0) := by
  rw [hb] at hn; simp only [Bool.false_eq_true, if_false] at hn
  cases h2 : σ'.2 with
  | true => have := h.2; simp only [if_true]; omega
  | false => have := h.1 h2; simp only [Bool.false_eq_true, if_false]; omega

set_option maxRecDepth 8000 in
set_option maxHeartbeats 1000000 in
theorem VerbR_spec (d : Int) : FnS Tryz.prog 76 [I64 d] [] (fun u Bs => u = .tuple #[S (verb d).1, S (verb d).2] ∧ Bs = []) := by
 refine fn_body Tryz.func76 rfl rfl rfl ?_
 intro W0 R
 simp only [List.zipIdx_cons, List.zipIdx_nil, List.map_cons, List.map_nil, Nat.zero_add, Nat.reduceAdd, List.cons_append, List.nil_append]
 refine g_seq ?_
 refine g_region ?_
 refine gl_v rfl (o_assign rfl) ?_
 refine gl_v rfl (o_assign rfl) ?_
 refine gl_nil ?_
 refine ge_then ?_
 refine g_seq ?_
 refine g_seq ?_
 refine g_region ?_
 refine gl_v rfl (o_move rfl) ?_
 refine gl_nil ?_
 refine ge_then ?_
 refine g_block ?_
 refine g_seq ?_
 refine g_region ?_
 refine gl_v rfl (o_eql rfl rfl) ?_
 refine gl_v rfl (o_assign rfl) ?_
 refine gl_nil ?_
 refine ge_then ?_
 refine g_cond rfl (fun hc1 => ?_) (fun hc1 => ?_)
 ·
  replace hc1 := hs_ hc1
  refine g_seq ?_
  refine g_region ?_
  refine gl_v rfl (o_assign rfl) ?_
  refine gl_v rfl (o_assign rfl) ?_
  refine gl_nil ?_
  refine ge_then ?_
  refine g_ret ?_
  refine ge_block_ret ?_
  refine ge_then_ret ?_
  refine ret2 (.inl rfl) rfl rfl rfl  [] ⟨by first | (subst_vars; rfl) | (rw [verbZ] <;> first | rfl | assumption), rfl⟩ (tO)
 ·
  replace hc1 := hs_ hc1
  refine g_seq ?_
  refine g_region ?_
  refine gl_v rfl (o_eql rfl rfl) ?_
  refine gl_v rfl (o_assign rfl) ?_
  refine gl_nil ?_
  refine ge_then ?_
  refine g_cond rfl (fun hc2 => ?_) (fun hc2 => ?_)
  ·
   replace hc2 := hs_ hc2
   refine g_seq ?_
   refine g_region ?_
   refine gl_v rfl (o_assign rfl) ?_
   refine gl_v rfl (o_assign rfl) ?_
   refine gl_nil ?_
   refine ge_then ?_
   refine g_ret ?_
   refine ge_block_ret ?_
   refine ge_then_ret ?_
   refine ret2 (.inl rfl) rfl rfl rfl  [] ⟨by first | (subst_vars; rfl) | (rw [verbZ] <;> first | rfl | assumption), rfl⟩ (tO)
  ·
   replace hc2 := hs_ hc2
   refine g_seq ?_
   refine g_region ?_
   refine gl_v rfl (o_eql rfl rfl) ?_
   refine gl_v rfl (o_assign rfl) ?_
   refine gl_nil ?_
   refine ge_then ?_
   refine g_cond rfl (fun hc3 => ?_) (fun hc3 => ?_)
   ·
    replace hc3 := hs_ hc3
    refine g_seq ?_
    refine g_region ?_
    refine gl_v rfl (o_assign rfl) ?_
    refine gl_v rfl (o_assign rfl) ?_
    refine gl_nil ?_
    refine ge_then ?_
    refine g_ret ?_
    refine ge_block_ret ?_
    refine ge_then_ret ?_
    refine ret2 (.inl rfl) rfl rfl rfl  [] ⟨by first | (subst_vars; rfl) | (rw [verbZ] <;> first | rfl | assumption), rfl⟩ (tO)
   ·
    replace hc3 := hs_ hc3
    refine g_seq ?_
    refine g_region ?_
    refine gl_v rfl (o_eql rfl rfl) ?_
    refine gl_v rfl (o_assign rfl) ?_
    refine gl_nil ?_
    refine ge_then ?_
    refine g_cond rfl (fun hc4 => ?_) (fun hc4 => ?_)
    ·
     replace hc4 := hs_ hc4
     refine g_seq ?_
     refine g_region ?_
     refine gl_v rfl (o_assign rfl) ?_
     refine gl_v rfl (o_assign rfl) ?_
     refine gl_nil ?_
     refine ge_then ?_
     refine g_ret ?_
     refine ge_block_ret ?_
     refine ge_then_ret ?_
     refine ret2 (.inl rfl) rfl rfl rfl  [] ⟨by first | (subst_vars; rfl) | (rw [verbZ] <;> first | rfl | assumption), rfl⟩ (tO)
    ·
     replace hc4 := hs_ hc4
     refine g_seq ?_
     refine g_region ?_
     refine gl_v rfl (o_eql rfl rfl) ?_
     refine gl_v rfl (o_assign rfl) ?_
     refine gl_nil ?_
     refine ge_then ?_
     refine g_cond rfl (fun hc5 => ?_) (fun hc5 => ?_)
     ·
      replace hc5 := hs_ hc5
      refine g_seq ?_
      refine g_region ?_
      refine gl_v rfl (o_assign rfl) ?_
      refine gl_v rfl (o_assign rfl) ?_
      refine gl_nil ?_
      refine ge_then ?_
      refine g_ret ?_
      refine ge_block_ret ?_
      refine ge_then_ret ?_
      refine ret2 (.inl rfl) rfl rfl rfl  [] ⟨by first | (subst_vars; rfl) | (rw [verbZ] <;> first | rfl | assumption), rfl⟩ (tO)
     ·
      replace hc5 := hs_ hc5
      refine g_seq ?_
      refine g_region ?_
      refine gl_v rfl (o_eql rfl rfl) ?_
      refine gl_v rfl (o_assign rfl) ?_
      refine gl_nil ?_
      refine ge_then ?_
      refine g_cond rfl (fun hc6 => ?_) (fun hc6 => ?_)
      ·
       replace hc6 := hs_ hc6
       refine g_seq ?_
       refine g_region ?_
       refine gl_v rfl (o_assign rfl) ?_
       refine gl_v rfl (o_assign rfl) ?_
       refine gl_nil ?_
       refine ge_then ?_
       refine g_ret ?_
       refine ge_block_ret ?_
       refine ge_then_ret ?_
       refine ret2 (.inl rfl) rfl rfl rfl  [] ⟨by first | (subst_vars; rfl) | (rw [verbZ] <;> first | rfl | assumption), rfl⟩ (tO)
      ·
       replace hc6 := hs_ hc6
       refine g_seq ?_
       refine g_region ?_
       refine gl_v rfl (o_eql rfl rfl) ?_
       refine gl_v rfl (o_assign rfl) ?_
       refine gl_nil ?_
       refine ge_then ?_
       refine g_cond rfl (fun hc7 => ?_) (fun hc7 => ?_)
       ·
        replace hc7 := hs_ hc7
        refine g_seq ?_
        refine g_region ?_
        refine gl_v rfl (o_assign rfl) ?_
        refine gl_v rfl (o_assign rfl) ?_
        refine gl_nil ?_
        refine ge_then ?_
        refine g_ret ?_
        refine ge_block_ret ?_
        refine ge_then_ret ?_
        refine ret2 (.inl rfl) rfl rfl rfl  [] ⟨by first | (subst_vars; rfl) | (rw [verbZ] <;> first | rfl | assumption), rfl⟩ (tO)
       ·
        replace hc7 := hs_ hc7
        refine g_seq ?_
        refine g_region ?_
        refine gl_v rfl (o_eql rfl rfl) ?_
        refine gl_v rfl (o_assign rfl) ?_
        refine gl_nil ?_
        refine ge_then ?_
        refine g_cond rfl (fun hc8 => ?_) (fun hc8 => ?_)
        ·
         replace hc8 := hs_ hc8
         refine g_seq ?_
         refine g_region ?_
         refine gl_v rfl (o_assign rfl) ?_
         refine gl_v rfl (o_assign rfl) ?_
         refine gl_nil ?_
         refine ge_then ?_
         refine g_ret ?_
         refine ge_block_ret ?_
         refine ge_then_ret ?_
         refine ret2 (.inl rfl) rfl rfl rfl  [] ⟨by first | (subst_vars; rfl) | (rw [verbZ] <;> first | rfl | assumption), rfl⟩ (tO)
        ·
         replace hc8 := hs_ hc8
         refine g_seq ?_
         refine g_region ?_
         refine gl_v rfl (o_eql rfl rfl) ?_
         refine gl_v rfl (o_assign rfl) ?_
         refine gl_nil ?_
         refine ge_then ?_
         refine g_cond rfl (fun hc9 => ?_) (fun hc9 => ?_)
         ·
          replace hc9 := hs_ hc9
          refine g_seq ?_
          refine g_region ?_
          refine gl_v rfl (o_assign rfl) ?_
          refine gl_v rfl (o_assign rfl) ?_
          refine gl_nil ?_
          refine ge_then ?_
          refine g_ret ?_
          refine ge_block_ret ?_
          refine ge_then_ret ?_
          refine ret2 (.inl rfl) rfl rfl rfl  [] ⟨by first | (subst_vars; rfl) | (rw [verbZ] <;> first | rfl | assumption), rfl⟩ (tO)
         ·
          replace hc9 := hs_ hc9
          refine g_seq ?_
          refine g_region ?_
          refine gl_v rfl (o_eql rfl rfl) ?_
          refine gl_v rfl (o_assign rfl) ?_
          refine gl_nil ?_
          refine ge_then ?_
          refine g_cond rfl (fun hc10 => ?_) (fun hc10 => ?_)
          ·
           replace hc10 := hs_ hc10
           refine g_seq ?_
           refine g_region ?_
           refine gl_v rfl (o_assign rfl) ?_
           refine gl_v rfl (o_assign rfl) ?_
           refine gl_nil ?_
           refine ge_then ?_
           refine g_ret ?_
           refine ge_block_ret ?_
           refine ge_then_ret ?_
           refine ret2 (.inl rfl) rfl rfl rfl  [] ⟨by first | (subst_vars; rfl) | (rw [verbZ] <;> first | rfl | assumption), rfl⟩ (tO)
          ·
           replace hc10 := hs_ hc10
           refine g_seq ?_
           refine g_region ?_
           refine gl_v rfl (o_eql rfl rfl) ?_
           refine gl_v rfl (o_assign rfl) ?_
           refine gl_nil ?_
           refine ge_then ?_
           refine g_cond rfl (fun hc11 => ?_) (fun hc11 => ?_)
           ·
            replace hc11 := hs_ hc11
            refine g_seq ?_
            refine g_region ?_
            refine gl_v rfl (o_assign rfl) ?_
            refine gl_v rfl (o_assign rfl) ?_
            refine gl_nil ?_
            refine ge_then ?_
            refine g_ret ?_
            refine ge_block_ret ?_
            refine ge_then_ret ?_
            refine ret2 (.inl rfl) rfl rfl rfl  [] ⟨by first | (subst_vars; rfl) | (rw [verbZ] <;> first | rfl | assumption), rfl⟩ (tO)
           ·
            replace hc11 := hs_ hc11
            refine g_seq ?_
            refine g_region ?_
            refine gl_v rfl (o_eql rfl rfl) ?_
            refine gl_v rfl (o_assign rfl) ?_
            refine gl_nil ?_
            refine ge_then ?_
            refine g_cond rfl (fun hc12 => ?_) (fun hc12 => ?_)
            ·
             replace hc12 := hs_ hc12
             refine g_seq ?_
             refine g_region ?_
             refine gl_v rfl (o_assign rfl) ?_
             refine gl_v rfl (o_assign rfl) ?_
             refine gl_nil ?_
             refine ge_then ?_
             refine g_ret ?_
             refine ge_block_ret ?_
             refine ge_then_ret ?_
             refine ret2 (.inl rfl) rfl rfl rfl  [] ⟨by first | (subst_vars; rfl) | (rw [verbZ] <;> first | rfl | assumption), rfl⟩ (tO)
            ·
             replace hc12 := hs_ hc12
             refine g_skip ?_
             refine ge_block ?_
             refine ge_then ?_
             refine g_seq ?_
             refine g_region ?_
             refine gl_v rfl (o_assign rfl) ?_
             refine gl_v rfl (o_assign rfl) ?_
             refine gl_nil ?_
             refine ge_then ?_
             refine g_ret ?_
             refine ret2 (.inl rfl) rfl rfl rfl  [] ⟨by first | (subst_vars; rfl) | (rw [verbZ] <;> first | rfl | assumption), rfl⟩ (tO)

set_option maxRecDepth 8000 in
set_option maxHeartbeats 1000000 in
theorem WordR_spec (d : Int) : FnS Tryz.prog 36 [I64 d] [] (fun u Bs => u = S (wordR d) ∧ Bs = []) := by
 refine fn_body Tryz.func36 rfl rfl rfl ?_
 intro W0 R
 simp only [List.zipIdx_cons, List.zipIdx_nil, List.map_cons, List.map_nil, Nat.zero_add, Nat.reduceAdd, List.cons_append, List.nil_append]
 refine g_seq ?_
 refine g_region ?_
 refine gl_v rfl (o_assign rfl) ?_
 refine gl_nil ?_
 refine ge_then ?_
 refine g_seq ?_
 refine g_seq ?_
 refine g_region ?_
 refine gl_v rfl (o_move rfl) ?_
 refine gl_nil ?_
 refine ge_then ?_
 refine g_block ?_
 refine g_seq ?_
 refine g_region ?_
 refine gl_v rfl (o_eql rfl rfl) ?_
 refine gl_v rfl (o_assign rfl) ?_
 refine gl_nil ?_
 refine ge_then ?_
 refine g_cond rfl (fun hc1 => ?_) (fun hc1 => ?_)
 ·
  replace hc1 := hs_ hc1
  refine g_seq ?_
  refine g_region ?_
  refine gl_v rfl (o_assign rfl) ?_
  refine gl_nil ?_
  refine ge_then ?_
  refine g_ret ?_
  refine ge_block_ret ?_
  refine ge_then_ret ?_
  refine ret1 (.inl rfl) rfl rfl _ (⟨by unfold wordR; first | (subst_vars; rfl) | (rw [if_neg (by omega), if_neg (by omega), if_neg (by omega), if_neg (by omega)]), rfl⟩) (tO)
 ·
  replace hc1 := hs_ hc1
  refine g_seq ?_
  refine g_region ?_
  refine gl_v rfl (o_eql rfl rfl) ?_
  refine gl_v rfl (o_assign rfl) ?_
  refine gl_nil ?_
  refine ge_then ?_
  refine g_cond rfl (fun hc2 => ?_) (fun hc2 => ?_)
  ·
   replace hc2 := hs_ hc2
   refine g_seq ?_
   refine g_region ?_
   refine gl_v rfl (o_assign rfl) ?_
   refine gl_nil ?_
   refine ge_then ?_
   refine g_ret ?_
   refine ge_block_ret ?_
   refine ge_then_ret ?_
   refine ret1 (.inl rfl) rfl rfl _ (⟨by unfold wordR; first | (subst_vars; rfl) | (rw [if_neg (by omega), if_neg (by omega), if_neg (by omega), if_neg (by omega)]), rfl⟩) (tO)
  ·
   replace hc2 := hs_ hc2
   refine g_seq ?_
   refine g_region ?_
   refine gl_v rfl (o_eql rfl rfl) ?_
   refine gl_v rfl (o_assign rfl) ?_
   refine gl_nil ?_
   refine ge_then ?_
   refine g_cond rfl (fun hc3 => ?_) (fun hc3 => ?_)
   ·
    replace hc3 := hs_ hc3
    refine g_seq ?_
    refine g_region ?_
    refine gl_v rfl (o_assign rfl) ?_
    refine gl_nil ?_
    refine ge_then ?_
    refine g_ret ?_
    refine ge_block_ret ?_
    refine ge_then_ret ?_
    refine ret1 (.inl rfl) rfl rfl _ (⟨by unfold wordR; first | (subst_vars; rfl) | (rw [if_neg (by omega), if_neg (by omega), if_neg (by omega), if_neg (by omega)]), rfl⟩) (tO)
   ·
    replace hc3 := hs_ hc3
    refine g_seq ?_
    refine g_region ?_
    refine gl_v rfl (o_eql rfl rfl) ?_
    refine gl_v rfl (o_assign rfl) ?_
    refine gl_nil ?_
    refine ge_then ?_
    refine g_cond rfl (fun hc4 => ?_) (fun hc4 => ?_)
    ·
     replace hc4 := hs_ hc4
     refine g_seq ?_
     refine g_region ?_
     refine gl_v rfl (o_assign rfl) ?_
     refine gl_nil ?_
     refine ge_then ?_
     refine g_ret ?_
     refine ge_block_ret ?_
     refine ge_then_ret ?_
     refine ret1 (.inl rfl) rfl rfl _ (⟨by unfold wordR; first | (subst_vars; rfl) | (rw [if_neg (by omega), if_neg (by omega), if_neg (by omega), if_neg (by omega)]), rfl⟩) (tO)
    ·
     replace hc4 := hs_ hc4
     refine g_skip ?_
     refine ge_block ?_
     refine ge_then ?_
     refine g_seq ?_
     refine g_region ?_
     refine gl_v rfl (o_assign rfl) ?_
     refine gl_nil ?_
     refine ge_then ?_
     refine g_ret ?_
     refine ret1 (.inl rfl) rfl rfl _ (⟨by unfold wordR; first | (subst_vars; rfl) | (rw [if_neg (by omega), if_neg (by omega), if_neg (by omega), if_neg (by omega)]), rfl⟩) (tO)

set_option maxRecDepth 8000 in
set_option maxHeartbeats 1000000 in
theorem word_bad (p : Nat) (la : Option Addr) (lc : Nat) (L : List Tk) (hL : L.length ≤ 16384) (s : By) (T : List Tk) : FnS Tryz.prog 58 [ptr p 0, S s] [txt p la lc L (T, true), tksA la lc L] (fun u Bs => u = .bool false ∧ Bs = [txt p la lc L (T, true), tksA la lc L]) := by
 refine fn_body Tryz.func58 rfl rfl rfl ?_
 intro W0 R
 simp only [List.zipIdx_cons, List.zipIdx_nil, List.map_cons, List.map_nil, Nat.zero_add, Nat.reduceAdd, List.cons_append, List.nil_append]
 refine g_seq ?_
 refine g_region ?_
 refine gl_v rfl (o_assign rfl) ?_
 refine gl_nil ?_
 refine ge_then ?_
 refine g_seq ?_
 refine g_seq ?_
 refine g_draw [] [] [(0, .loc), (1, .loc), (2, .loc), (3, .loc), (4, .loc), (5, .loc), (6, .loc), (7, .loc), (8, .loc), (9, .loc), (10, .loc), (11, .loc), (12, .loc), (13, .loc), (14, .loc), (15, .loc), (16, .loc), (17, .loc), (18, .loc), (19, .loc), (20, .loc), (21, .loc), (22, .loc), (23, .loc), (24, .loc), (25, .loc), (26, .loc), (27, .loc), (28, .loc), (29, .loc), (30, .loc), (31, .loc), (32, .loc), (33, .loc), (34, .loc), (35, .loc), (36, .loc), (37, .loc), (38, .loc), (39, .loc), (40, .loc), (41, .loc), (42, .loc), (43, .loc), (44, .loc)] [txt p la lc L (T, true), tksA la lc L] mixed (by kernel_rfl) ?_
 refine go_v rfl .none rfl (o_move rfl) ?_
 refine go_v rfl .none rfl (o_nil rfl) ?_
 first | refine go_v rfl .none rfl (o_fldS rfl) ?_ | refine go_v rfl .none rfl (o_fld rfl) ?_
 refine go_v rfl .none rfl (o_is (c := true) (by rfl) (o_load rfl rfl)) ?_
 refine go_v rfl .none rfl (o_move rfl) ?_
 refine go_skip rfl (.no rfl rfl rfl) rfl ?_
 refine go_skip rfl (.no rfl rfl rfl) rfl ?_
 refine go_skip rfl (.no rfl rfl rfl) rfl ?_
 refine go_skip rfl (.no rfl rfl rfl) rfl ?_
 refine go_skip rfl (.no rfl rfl rfl) rfl ?_
 refine go_skip rfl (.no rfl rfl rfl) rfl ?_
 refine go_skip rfl (.no rfl rfl rfl) rfl ?_
 refine go_skip rfl (.no rfl rfl rfl) rfl ?_
 refine go_skip rfl (.no rfl rfl rfl) rfl ?_
 refine go_skip rfl (.no rfl rfl rfl) rfl ?_
 refine go_v rfl .none rfl (o_pickT rfl rfl rfl) ?_
 refine go_v rfl .none rfl (o_move rfl) ?_
 refine go_skip rfl (.no rfl rfl rfl) rfl ?_
 refine go_skip rfl (.no rfl rfl rfl) rfl ?_
 refine go_skip rfl (.no rfl rfl rfl) rfl ?_
 refine go_skip rfl (.no rfl rfl rfl) rfl ?_
 refine go_skip rfl (.no rfl rfl rfl) rfl ?_
 refine go_skip rfl (.no rfl rfl rfl) rfl ?_
 refine go_skip rfl (.no rfl rfl rfl) rfl ?_
 refine go_skip rfl (.no rfl rfl rfl) rfl ?_
 refine go_skip rfl (.no rfl rfl rfl) rfl ?_
 refine go_skip rfl (.no rfl rfl rfl) rfl ?_
 refine go_skip rfl (.no rfl rfl rfl) rfl ?_
 refine go_skip rfl (.no rfl rfl rfl) rfl ?_
 refine go_v rfl .none rfl (o_pickT rfl rfl rfl) ?_
 refine go_v rfl .none rfl (o_move rfl) ?_
 refine go_skip rfl (.no rfl rfl rfl) rfl ?_
 refine go_skip rfl (.no rfl rfl rfl) rfl ?_
 refine go_skip rfl (.no rfl rfl rfl) rfl ?_
 refine go_skip rfl (.no rfl rfl rfl) rfl ?_
 refine go_skip rfl (.no rfl rfl rfl) rfl ?_
 refine go_skip rfl (.no rfl rfl rfl) rfl ?_
 refine go_skip rfl (.no rfl rfl rfl) rfl ?_
 refine go_skip rfl (.no rfl rfl rfl) rfl ?_
 refine go_skip rfl (.no rfl rfl rfl) rfl ?_
 refine go_skip rfl (.no rfl rfl rfl) rfl ?_
 refine go_skip rfl (.no rfl rfl rfl) rfl ?_
 refine go_skip rfl (.no rfl rfl rfl) rfl ?_
 refine go_skip rfl (.no rfl rfl rfl) rfl ?_
 refine go_v rfl .none rfl (o_pickT rfl rfl rfl) ?_
 refine go_nil ?_
 refine ge_then ?_
 refine g_cond_true rfl ?_
 refine g_seq ?_
 refine g_region ?_
 refine gl_v rfl (o_assign rfl) ?_
 refine gl_nil ?_
 refine ge_then ?_
 refine g_ret ?_
 refine ge_then_ret ?_
 refine ret1 (.inl rfl) rfl rfl [txt p la lc L (T, true), tksA la lc L] (⟨rfl, rfl⟩) (tO)

set_option maxRecDepth 8000 in
set_option maxHeartbeats 1000000 in
theorem word_nil (p : Nat) (la : Option Addr) (lc : Nat) (L : List Tk) (hL : L.length ≤ 16384) (s : By) : FnS Tryz.prog 58 [ptr p 0, S s] [txt p la lc L ([], false), tksA la lc L] (fun u Bs => u = .bool false ∧ Bs = [txt p la lc L ([], false), tksA la lc L]) := by
 refine fn_body Tryz.func58 rfl rfl rfl ?_
 intro W0 R
 simp only [List.zipIdx_cons, List.zipIdx_nil, List.map_cons, List.map_nil, Nat.zero_add, Nat.reduceAdd, List.cons_append, List.nil_append]
 refine g_seq ?_
 refine g_region ?_
 refine gl_v rfl (o_assign rfl) ?_
 refine gl_nil ?_
 refine ge_then ?_
 refine g_seq ?_
 refine g_seq ?_
 refine g_draw [] [] [(0, .loc), (1, .loc), (2, .loc), (3, .loc), (4, .loc), (5, .loc), (6, .loc), (7, .loc), (8, .loc), (9, .loc), (10, .loc), (11, .loc), (12, .loc), (13, .loc), (14, .loc), (15, .loc), (16, .loc), (17, .loc), (18, .loc), (19, .loc), (20, .loc), (21, .loc), (22, .loc), (23, .loc), (24, .loc), (25, .loc), (26, .loc), (27, .loc), (28, .loc), (29, .loc), (30, .loc), (31, .loc), (32, .loc), (33, .loc), (34, .loc), (35, .loc), (36, .loc), (37, .loc), (38, .loc), (39, .loc), (40, .loc), (41, .loc), (42, .loc), (43, .loc), (44, .loc)] [txt p la lc L ([], false), tksA la lc L] mixed (by kernel_rfl) ?_
 refine go_v rfl .none rfl (o_move rfl) ?_
 refine go_v rfl .none rfl (o_nil rfl) ?_
 first | refine go_v rfl .none rfl (o_fldS rfl) ?_ | refine go_v rfl .none rfl (o_fld rfl) ?_
 refine go_v rfl .none rfl (o_is (c := false) (by rfl) (o_load rfl rfl)) ?_
 refine go_v rfl .none rfl (o_move rfl) ?_
 refine go_v rfl (.yes rfl rfl rfl) rfl (o_move rfl) ?_
 refine go_v rfl (.yes rfl rfl rfl) rfl (o_nil rfl) ?_
 first | refine go_v rfl (.yes rfl rfl rfl) rfl (o_fldS rfl) ?_ | refine go_v rfl (.yes rfl rfl rfl) rfl (o_fld rfl) ?_
 first | refine go_v rfl (.yes rfl rfl rfl) rfl (o_load rfl rfl) ?_ | refine go_v rfl (.yes rfl rfl rfl) rfl (o_loadS rfl rfl) ?_ | refine go_v rfl (.yes rfl rfl rfl) rfl (o_loadC rfl) ?_
 refine go_v rfl (.yes rfl rfl rfl) rfl (o_move rfl) ?_
 refine go_v rfl (.yes rfl rfl rfl) rfl (o_nil rfl) ?_
 first | refine go_v rfl (.yes rfl rfl rfl) rfl (o_fldS rfl) ?_ | refine go_v rfl (.yes rfl rfl rfl) rfl (o_fld rfl) ?_
 first | refine go_v rfl (.yes rfl rfl rfl) rfl (o_load rfl rfl) ?_ | refine go_v rfl (.yes rfl rfl rfl) rfl (o_loadS rfl rfl) ?_ | refine go_v rfl (.yes rfl rfl rfl) rfl (o_loadC rfl) ?_
 first | refine go_v rfl (.yes rfl rfl rfl) rfl (o_len rfl) ?_ | refine go_v rfl (.yes rfl rfl rfl) rfl (o_lenL rfl) ?_
 refine go_v rfl (.yes rfl rfl rfl) rfl (o_is (c := true) (by exact decide_eq_true (by simp only [List.length_nil]; omega)) (o_geq rfl rfl)) ?_
 refine go_v rfl .none rfl (o_pickF rfl rfl rfl) ?_
 refine go_v rfl .none rfl (o_move rfl) ?_
 refine go_skip rfl (.no rfl rfl rfl) rfl ?_
 refine go_skip rfl (.no rfl rfl rfl) rfl ?_
 refine go_skip rfl (.no rfl rfl rfl) rfl ?_
 refine go_skip rfl (.no rfl rfl rfl) rfl ?_
 refine go_skip rfl (.no rfl rfl rfl) rfl ?_
 refine go_skip rfl (.no rfl rfl rfl) rfl ?_
 refine go_skip rfl (.no rfl rfl rfl) rfl ?_
 refine go_skip rfl (.no rfl rfl rfl) rfl ?_
 refine go_skip rfl (.no rfl rfl rfl) rfl ?_
 refine go_skip rfl (.no rfl rfl rfl) rfl ?_
 refine go_skip rfl (.no rfl rfl rfl) rfl ?_
 refine go_skip rfl (.no rfl rfl rfl) rfl ?_
 refine go_v rfl .none rfl (o_pickT rfl rfl rfl) ?_
 refine go_v rfl .none rfl (o_move rfl) ?_
 refine go_skip rfl (.no rfl rfl rfl) rfl ?_
 refine go_skip rfl (.no rfl rfl rfl) rfl ?_
 refine go_skip rfl (.no rfl rfl rfl) rfl ?_
 refine go_skip rfl (.no rfl rfl rfl) rfl ?_
 refine go_skip rfl (.no rfl rfl rfl) rfl ?_
 refine go_skip rfl (.no rfl rfl rfl) rfl ?_
 refine go_skip rfl (.no rfl rfl rfl) rfl ?_
 refine go_skip rfl (.no rfl rfl rfl) rfl ?_
 refine go_skip rfl (.no rfl rfl rfl) rfl ?_
 refine go_skip rfl (.no rfl rfl rfl) rfl ?_
 refine go_skip rfl (.no rfl rfl rfl) rfl ?_
 refine go_skip rfl (.no rfl rfl rfl) rfl ?_
 refine go_skip rfl (.no rfl rfl rfl) rfl ?_
 refine go_v rfl .none rfl (o_pickT rfl rfl rfl) ?_
 refine go_nil ?_
 refine ge_then ?_
 refine g_cond_true rfl ?_
 refine g_seq ?_
 refine g_region ?_
 refine gl_v rfl (o_assign rfl) ?_
 refine gl_nil ?_
 refine ge_then ?_
 refine g_ret ?_
 refine ge_then_ret ?_
 refine ret1 (.inl rfl) rfl rfl [txt p la lc L ([], false), tksA la lc L] (⟨rfl, rfl⟩) (tO)

set_option maxRecDepth 8000 in
set_option maxHeartbeats 1000000 in
theorem word_k2 (p : Nat) (la : Option Addr) (lc : Nat) (L : List Tk) (hL : L.length ≤ 16384) (s : By) (t : Tk) (T : List Tk) (hs : Suf (t :: T) L) (hk : t.kind = 2) : FnS Tryz.prog 58 [ptr p 0, S s] [txt p la lc L (t :: T, false), tksA la lc L] (fun u Bs => u = .bool false ∧ Bs = [txt p la lc L (t :: T, false), tksA la lc L]) := by
 refine fn_body Tryz.func58 rfl rfl rfl ?_
 intro W0 R
 simp only [List.zipIdx_cons, List.zipIdx_nil, List.map_cons, List.map_nil, Nat.zero_add, Nat.reduceAdd, List.cons_append, List.nil_append]
 have hl1 := hs.1
 have hlc : (t :: T).length = T.length + 1 := rfl
 have hi : L.length - (t :: T).length < L.length := by omega
 have hat := at_cons hs
 refine g_seq ?_
 refine g_region ?_
 refine gl_v rfl (o_assign rfl) ?_
 refine gl_nil ?_
 refine ge_then ?_
 refine g_seq ?_
 refine g_seq ?_
 refine g_draw [] [] [(0, .loc), (1, .loc), (2, .loc), (3, .loc), (4, .loc), (5, .loc), (6, .loc), (7, .loc), (8, .loc), (9, .loc), (10, .loc), (11, .loc), (12, .loc), (13, .loc), (14, .loc), (15, .loc), (16, .loc), (17, .loc), (18, .loc), (19, .loc), (20, .loc), (21, .loc), (22, .loc), (23, .loc), (24, .loc), (25, .loc), (26, .loc), (27, .loc), (28, .loc), (29, .loc), (30, .loc), (31, .loc), (32, .loc), (33, .loc), (34, .loc), (35, .loc), (36, .loc), (37, .loc), (38, .loc), (39, .loc), (40, .loc), (41, .loc), (42, .loc), (43, .loc), (44, .loc)] [txt p la lc L (t :: T, false), tksA la lc L] mixed (by kernel_rfl) ?_
 refine go_v rfl .none rfl (o_move rfl) ?_
 refine go_v rfl .none rfl (o_nil rfl) ?_
 first | refine go_v rfl .none rfl (o_fldS rfl) ?_ | refine go_v rfl .none rfl (o_fld rfl) ?_
 refine go_v rfl .none rfl (o_is (c := false) (by rfl) (o_load rfl rfl)) ?_
 refine go_v rfl .none rfl (o_move rfl) ?_
 refine go_v rfl (.yes rfl rfl rfl) rfl (o_move rfl) ?_
 refine go_v rfl (.yes rfl rfl rfl) rfl (o_nil rfl) ?_
 first | refine go_v rfl (.yes rfl rfl rfl) rfl (o_fldS rfl) ?_ | refine go_v rfl (.yes rfl rfl rfl) rfl (o_fld rfl) ?_
 first | refine go_v rfl (.yes rfl rfl rfl) rfl (o_load rfl rfl) ?_ | refine go_v rfl (.yes rfl rfl rfl) rfl (o_loadS rfl rfl) ?_ | refine go_v rfl (.yes rfl rfl rfl) rfl (o_loadC rfl) ?_
 refine go_v rfl (.yes rfl rfl rfl) rfl (o_move rfl) ?_
 refine go_v rfl (.yes rfl rfl rfl) rfl (o_nil rfl) ?_
 first | refine go_v rfl (.yes rfl rfl rfl) rfl (o_fldS rfl) ?_ | refine go_v rfl (.yes rfl rfl rfl) rfl (o_fld rfl) ?_
 first | refine go_v rfl (.yes rfl rfl rfl) rfl (o_load rfl rfl) ?_ | refine go_v rfl (.yes rfl rfl rfl) rfl (o_loadS rfl rfl) ?_ | refine go_v rfl (.yes rfl rfl rfl) rfl (o_loadC rfl) ?_
 first | refine go_v rfl (.yes rfl rfl rfl) rfl (o_len rfl) ?_ | refine go_v rfl (.yes rfl rfl rfl) rfl (o_lenL rfl) ?_
 refine go_v rfl (.yes rfl rfl rfl) rfl (o_is (c := false) (by exact decide_eq_false (by (try dsimp only); omega)) (o_geq rfl rfl)) ?_
 refine go_v rfl .none rfl (o_pickF rfl rfl rfl) ?_
 refine go_v rfl .none rfl (o_move rfl) ?_
 refine go_v rfl (.yes rfl rfl rfl) rfl (o_move rfl) ?_
 refine go_v rfl (.yes rfl rfl rfl) rfl (o_nil rfl) ?_
 first | refine go_v rfl (.yes rfl rfl rfl) rfl (o_fldS rfl) ?_ | refine go_v rfl (.yes rfl rfl rfl) rfl (o_fld rfl) ?_
 first | refine go_v rfl (.yes rfl rfl rfl) rfl (o_load rfl rfl) ?_ | refine go_v rfl (.yes rfl rfl rfl) rfl (o_loadS rfl rfl) ?_ | refine go_v rfl (.yes rfl rfl rfl) rfl (o_loadC rfl) ?_
 refine go_v rfl (.yes rfl rfl rfl) rfl (o_move rfl) ?_
 refine go_v rfl (.yes rfl rfl rfl) rfl (o_nil rfl) ?_
 first | refine go_v rfl (.yes rfl rfl rfl) rfl (o_fldS rfl) ?_ | refine go_v rfl (.yes rfl rfl rfl) rfl (o_fld rfl) ?_
 first | refine go_v rfl (.yes rfl rfl rfl) rfl (o_load rfl rfl) ?_ | refine go_v rfl (.yes rfl rfl rfl) rfl (o_loadS rfl rfl) ?_ | refine go_v rfl (.yes rfl rfl rfl) rfl (o_loadC rfl) ?_
 refine go_v rfl (.yes rfl rfl rfl) rfl (o_idxS rfl rfl hi) ?_
 first | refine go_v rfl (.yes rfl rfl rfl) rfl (o_fldS rfl) ?_ | refine go_v rfl (.yes rfl rfl rfl) rfl (o_fld rfl) ?_
 refine go_v rfl (.yes rfl rfl rfl) rfl (o_loadS rfl (flat_get tkC 4 tkC_len hat (show (tkC t)[0]? = some _ from rfl))) ?_
 refine go_v rfl (.yes rfl rfl rfl) rfl (o_is (c := true) (by exact decide_eq_true (by (try dsimp only); omega)) (o_eql rfl rfl)) ?_
 refine go_v rfl .none rfl (o_pickF rfl rfl rfl) ?_
 refine go_v rfl .none rfl (o_move rfl) ?_
 refine go_skip rfl (.no rfl rfl rfl) rfl ?_
 refine go_skip rfl (.no rfl rfl rfl) rfl ?_
 refine go_skip rfl (.no rfl rfl rfl) rfl ?_
 refine go_skip rfl (.no rfl rfl rfl) rfl ?_
 refine go_skip rfl (.no rfl rfl rfl) rfl ?_
 refine go_skip rfl (.no rfl rfl rfl) rfl ?_
 refine go_skip rfl (.no rfl rfl rfl) rfl ?_
 refine go_skip rfl (.no rfl rfl rfl) rfl ?_
 refine go_skip rfl (.no rfl rfl rfl) rfl ?_
 refine go_skip rfl (.no rfl rfl rfl) rfl ?_
 refine go_skip rfl (.no rfl rfl rfl) rfl ?_
 refine go_skip rfl (.no rfl rfl rfl) rfl ?_
 refine go_skip rfl (.no rfl rfl rfl) rfl ?_
 refine go_v rfl .none rfl (o_pickT rfl rfl rfl) ?_
 refine go_nil ?_
 refine ge_then ?_
 refine g_cond_true rfl ?_
 refine g_seq ?_
 refine g_region ?_
 refine gl_v rfl (o_assign rfl) ?_
 refine gl_nil ?_
 refine ge_then ?_
 refine g_ret ?_
 refine ge_then_ret ?_
 refine ret1 (.inl rfl) rfl rfl [txt p la lc L (t :: T, false), tksA la lc L] (⟨rfl, rfl⟩) (tO)

set_option maxRecDepth 8000 in
set_option maxHeartbeats 1000000 in
theorem word_ne (p : Nat) (la : Option Addr) (lc : Nat) (L : List Tk) (hL : L.length ≤ 16384) (s : By) (t : Tk) (T : List Tk) (hs : Suf (t :: T) L) (hk : ¬ t.kind = 2) (hx : ¬ t.text = s) : FnS Tryz.prog 58 [ptr p 0, S s] [txt p la lc L (t :: T, false), tksA la lc L] (fun u Bs => u = .bool false ∧ Bs = [txt p la lc L (t :: T, false), tksA la lc L]) := by
 refine fn_body Tryz.func58 rfl rfl rfl ?_
 intro W0 R
 simp only [List.zipIdx_cons, List.zipIdx_nil, List.map_cons, List.map_nil, Nat.zero_add, Nat.reduceAdd, List.cons_append, List.nil_append]
 have hl1 := hs.1
 have hlc : (t :: T).length = T.length + 1 := rfl
 have hi : L.length - (t :: T).length < L.length := by omega
 have hat := at_cons hs
 refine g_seq ?_
 refine g_region ?_
 refine gl_v rfl (o_assign rfl) ?_
 refine gl_nil ?_
 refine ge_then ?_
 refine g_seq ?_
 refine g_seq ?_
 refine g_draw [] [] [(0, .loc), (1, .loc), (2, .loc), (3, .loc), (4, .loc), (5, .loc), (6, .loc), (7, .loc), (8, .loc), (9, .loc), (10, .loc), (11, .loc), (12, .loc), (13, .loc), (14, .loc), (15, .loc), (16, .loc), (17, .loc), (18, .loc), (19, .loc), (20, .loc), (21, .loc), (22, .loc), (23, .loc), (24, .loc), (25, .loc), (26, .loc), (27, .loc), (28, .loc), (29, .loc), (30, .loc), (31, .loc), (32, .loc), (33, .loc), (34, .loc), (35, .loc), (36, .loc), (37, .loc), (38, .loc), (39, .loc), (40, .loc), (41, .loc), (42, .loc), (43, .loc), (44, .loc)] [txt p la lc L (t :: T, false), tksA la lc L] mixed (by kernel_rfl) ?_
 refine go_v rfl .none rfl (o_move rfl) ?_
 refine go_v rfl .none rfl (o_nil rfl) ?_
 first | refine go_v rfl .none rfl (o_fldS rfl) ?_ | refine go_v rfl .none rfl (o_fld rfl) ?_
 refine go_v rfl .none rfl (o_is (c := false) (by rfl) (o_load rfl rfl)) ?_
 refine go_v rfl .none rfl (o_move rfl) ?_
 refine go_v rfl (.yes rfl rfl rfl) rfl (o_move rfl) ?_
 refine go_v rfl (.yes rfl rfl rfl) rfl (o_nil rfl) ?_
 first | refine go_v rfl (.yes rfl rfl rfl) rfl (o_fldS rfl) ?_ | refine go_v rfl (.yes rfl rfl rfl) rfl (o_fld rfl) ?_
 first | refine go_v rfl (.yes rfl rfl rfl) rfl (o_load rfl rfl) ?_ | refine go_v rfl (.yes rfl rfl rfl) rfl (o_loadS rfl rfl) ?_ | refine go_v rfl (.yes rfl rfl rfl) rfl (o_loadC rfl) ?_
 refine go_v rfl (.yes rfl rfl rfl) rfl (o_move rfl) ?_
 refine go_v rfl (.yes rfl rfl rfl) rfl (o_nil rfl) ?_
 first | refine go_v rfl (.yes rfl rfl rfl) rfl (o_fldS rfl) ?_ | refine go_v rfl (.yes rfl rfl rfl) rfl (o_fld rfl) ?_
 first | refine go_v rfl (.yes rfl rfl rfl) rfl (o_load rfl rfl) ?_ | refine go_v rfl (.yes rfl rfl rfl) rfl (o_loadS rfl rfl) ?_ | refine go_v rfl (.yes rfl rfl rfl) rfl (o_loadC rfl) ?_
 first | refine go_v rfl (.yes rfl rfl rfl) rfl (o_len rfl) ?_ | refine go_v rfl (.yes rfl rfl rfl) rfl (o_lenL rfl) ?_
 refine go_v rfl (.yes rfl rfl rfl) rfl (o_is (c := false) (by exact decide_eq_false (by (try dsimp only); omega)) (o_geq rfl rfl)) ?_
 refine go_v rfl .none rfl (o_pickF rfl rfl rfl) ?_
 refine go_v rfl .none rfl (o_move rfl) ?_
 refine go_v rfl (.yes rfl rfl rfl) rfl (o_move rfl) ?_
 refine go_v rfl (.yes rfl rfl rfl) rfl (o_nil rfl) ?_
 first | refine go_v rfl (.yes rfl rfl rfl) rfl (o_fldS rfl) ?_ | refine go_v rfl (.yes rfl rfl rfl) rfl (o_fld rfl) ?_
 first | refine go_v rfl (.yes rfl rfl rfl) rfl (o_load rfl rfl) ?_ | refine go_v rfl (.yes rfl rfl rfl) rfl (o_loadS rfl rfl) ?_ | refine go_v rfl (.yes rfl rfl rfl) rfl (o_loadC rfl) ?_
 refine go_v rfl (.yes rfl rfl rfl) rfl (o_move rfl) ?_
 refine go_v rfl (.yes rfl rfl rfl) rfl (o_nil rfl) ?_
 first | refine go_v rfl (.yes rfl rfl rfl) rfl (o_fldS rfl) ?_ | refine go_v rfl (.yes rfl rfl rfl) rfl (o_fld rfl) ?_
 first | refine go_v rfl (.yes rfl rfl rfl) rfl (o_load rfl rfl) ?_ | refine go_v rfl (.yes rfl rfl rfl) rfl (o_loadS rfl rfl) ?_ | refine go_v rfl (.yes rfl rfl rfl) rfl (o_loadC rfl) ?_
 refine go_v rfl (.yes rfl rfl rfl) rfl (o_idxS rfl rfl hi) ?_
 first | refine go_v rfl (.yes rfl rfl rfl) rfl (o_fldS rfl) ?_ | refine go_v rfl (.yes rfl rfl rfl) rfl (o_fld rfl) ?_
 refine go_v rfl (.yes rfl rfl rfl) rfl (o_loadS rfl (flat_get tkC 4 tkC_len hat (show (tkC t)[0]? = some _ from rfl))) ?_
 refine go_v rfl (.yes rfl rfl rfl) rfl (o_is (c := false) (by exact decide_eq_false (by (try dsimp only); omega)) (o_eql rfl rfl)) ?_
 refine go_v rfl .none rfl (o_pickF rfl rfl rfl) ?_
 refine go_v rfl .none rfl (o_move rfl) ?_
 refine go_v rfl (.yes rfl rfl rfl) rfl (o_move rfl) ?_
 refine go_v rfl (.yes rfl rfl rfl) rfl (o_nil rfl) ?_
 first | refine go_v rfl (.yes rfl rfl rfl) rfl (o_fldS rfl) ?_ | refine go_v rfl (.yes rfl rfl rfl) rfl (o_fld rfl) ?_
 first | refine go_v rfl (.yes rfl rfl rfl) rfl (o_load rfl rfl) ?_ | refine go_v rfl (.yes rfl rfl rfl) rfl (o_loadS rfl rfl) ?_ | refine go_v rfl (.yes rfl rfl rfl) rfl (o_loadC rfl) ?_
 refine go_v rfl (.yes rfl rfl rfl) rfl (o_move rfl) ?_
 refine go_v rfl (.yes rfl rfl rfl) rfl (o_nil rfl) ?_
 first | refine go_v rfl (.yes rfl rfl rfl) rfl (o_fldS rfl) ?_ | refine go_v rfl (.yes rfl rfl rfl) rfl (o_fld rfl) ?_
 first | refine go_v rfl (.yes rfl rfl rfl) rfl (o_load rfl rfl) ?_ | refine go_v rfl (.yes rfl rfl rfl) rfl (o_loadS rfl rfl) ?_ | refine go_v rfl (.yes rfl rfl rfl) rfl (o_loadC rfl) ?_
 refine go_v rfl (.yes rfl rfl rfl) rfl (o_idxS rfl rfl hi) ?_
 first | refine go_v rfl (.yes rfl rfl rfl) rfl (o_fldS rfl) ?_ | refine go_v rfl (.yes rfl rfl rfl) rfl (o_fld rfl) ?_
 refine go_v rfl (.yes rfl rfl rfl) rfl (o_loadS rfl (flat_get tkC 4 tkC_len hat (show (tkC t)[1]? = some _ from rfl))) ?_
 refine go_v rfl (.yes rfl rfl rfl) rfl (o_move rfl) ?_
 refine go_v rfl (.yes rfl rfl rfl) rfl (o_is (c := true) (by simp [hx]) (o_neqs rfl rfl)) ?_
 refine go_v rfl .none rfl (o_pickF rfl rfl rfl) ?_
 refine go_nil ?_
 refine ge_then ?_
 refine g_cond_true rfl ?_
 refine g_seq ?_
 refine g_region ?_
 refine gl_v rfl (o_assign rfl) ?_
 refine gl_nil ?_
 refine ge_then ?_
 refine g_ret ?_
 refine ge_then_ret ?_
 refine ret1 (.inl rfl) rfl rfl [txt p la lc L (t :: T, false), tksA la lc L] (⟨rfl, rfl⟩) (tO)

set_option maxRecDepth 8000 in
set_option maxHeartbeats 1000000 in
theorem word_yes (p : Nat) (la : Option Addr) (lc : Nat) (L : List Tk) (hL : L.length ≤ 16384) (s : By) (t : Tk) (T : List Tk) (hs : Suf (t :: T) L) (hk : ¬ t.kind = 2) (hx : t.text = s) : FnS Tryz.prog 58 [ptr p 0, S s] [txt p la lc L (t :: T, false), tksA la lc L] (fun u Bs => u = .bool true ∧ Bs = [txt p la lc L (T, false), tksA la lc L]) := by
 refine fn_body Tryz.func58 rfl rfl rfl ?_
 intro W0 R
 simp only [List.zipIdx_cons, List.zipIdx_nil, List.map_cons, List.map_nil, Nat.zero_add, Nat.reduceAdd, List.cons_append, List.nil_append]
 have hl1 := hs.1
 have hlc : (t :: T).length = T.length + 1 := rfl
 have hi : L.length - (t :: T).length < L.length := by omega
 have hat := at_cons hs
 refine g_seq ?_
 refine g_region ?_
 refine gl_v rfl (o_assign rfl) ?_
 refine gl_nil ?_
 refine ge_then ?_
 refine g_seq ?_
 refine g_seq ?_
 refine g_draw [] [] [(0, .loc), (1, .loc), (2, .loc), (3, .loc), (4, .loc), (5, .loc), (6, .loc), (7, .loc), (8, .loc), (9, .loc), (10, .loc), (11, .loc), (12, .loc), (13, .loc), (14, .loc), (15, .loc), (16, .loc), (17, .loc), (18, .loc), (19, .loc), (20, .loc), (21, .loc), (22, .loc), (23, .loc), (24, .loc), (25, .loc), (26, .loc), (27, .loc), (28, .loc), (29, .loc), (30, .loc), (31, .loc), (32, .loc), (33, .loc), (34, .loc), (35, .loc), (36, .loc), (37, .loc), (38, .loc), (39, .loc), (40, .loc), (41, .loc), (42, .loc), (43, .loc), (44, .loc)] [txt p la lc L (t :: T, false), tksA la lc L] mixed (by kernel_rfl) ?_
 refine go_v rfl .none rfl (o_move rfl) ?_
 refine go_v rfl .none rfl (o_nil rfl) ?_
 first | refine go_v rfl .none rfl (o_fldS rfl) ?_ | refine go_v rfl .none rfl (o_fld rfl) ?_
 refine go_v rfl .none rfl (o_is (c := false) (by rfl) (o_load rfl rfl)) ?_
 refine go_v rfl .none rfl (o_move rfl) ?_
 refine go_v rfl (.yes rfl rfl rfl) rfl (o_move rfl) ?_
 refine go_v rfl (.yes rfl rfl rfl) rfl (o_nil rfl) ?_
 first | refine go_v rfl (.yes rfl rfl rfl) rfl (o_fldS rfl) ?_ | refine go_v rfl (.yes rfl rfl rfl) rfl (o_fld rfl) ?_
 first | refine go_v rfl (.yes rfl rfl rfl) rfl (o_load rfl rfl) ?_ | refine go_v rfl (.yes rfl rfl rfl) rfl (o_loadS rfl rfl) ?_ | refine go_v rfl (.yes rfl rfl rfl) rfl (o_loadC rfl) ?_
 refine go_v rfl (.yes rfl rfl rfl) rfl (o_move rfl) ?_
 refine go_v rfl (.yes rfl rfl rfl) rfl (o_nil rfl) ?_
 first | refine go_v rfl (.yes rfl rfl rfl) rfl (o_fldS rfl) ?_ | refine go_v rfl (.yes rfl rfl rfl) rfl (o_fld rfl) ?_
 first | refine go_v rfl (.yes rfl rfl rfl) rfl (o_load rfl rfl) ?_ | refine go_v rfl (.yes rfl rfl rfl) rfl (o_loadS rfl rfl) ?_ | refine go_v rfl (.yes rfl rfl rfl) rfl (o_loadC rfl) ?_
 first | refine go_v rfl (.yes rfl rfl rfl) rfl (o_len rfl) ?_ | refine go_v rfl (.yes rfl rfl rfl) rfl (o_lenL rfl) ?_
 refine go_v rfl (.yes rfl rfl rfl) rfl (o_is (c := false) (by exact decide_eq_false (by (try dsimp only); omega)) (o_geq rfl rfl)) ?_
 refine go_v rfl .none rfl (o_pickF rfl rfl rfl) ?_
 refine go_v rfl .none rfl (o_move rfl) ?_
 refine go_v rfl (.yes rfl rfl rfl) rfl (o_move rfl) ?_
 refine go_v rfl (.yes rfl rfl rfl) rfl (o_nil rfl) ?_
 first | refine go_v rfl (.yes rfl rfl rfl) rfl (o_fldS rfl) ?_ | refine go_v rfl (.yes rfl rfl rfl) rfl (o_fld rfl) ?_
 first | refine go_v rfl (.yes rfl rfl rfl) rfl (o_load rfl rfl) ?_ | refine go_v rfl (.yes rfl rfl rfl) rfl (o_loadS rfl rfl) ?_ | refine go_v rfl (.yes rfl rfl rfl) rfl (o_loadC rfl) ?_
 refine go_v rfl (.yes rfl rfl rfl) rfl (o_move rfl) ?_
 refine go_v rfl (.yes rfl rfl rfl) rfl (o_nil rfl) ?_
 first | refine go_v rfl (.yes rfl rfl rfl) rfl (o_fldS rfl) ?_ | refine go_v rfl (.yes rfl rfl rfl) rfl (o_fld rfl) ?_
 first | refine go_v rfl (.yes rfl rfl rfl) rfl (o_load rfl rfl) ?_ | refine go_v rfl (.yes rfl rfl rfl) rfl (o_loadS rfl rfl) ?_ | refine go_v rfl (.yes rfl rfl rfl) rfl (o_loadC rfl) ?_
 refine go_v rfl (.yes rfl rfl rfl) rfl (o_idxS rfl rfl hi) ?_
 first | refine go_v rfl (.yes rfl rfl rfl) rfl (o_fldS rfl) ?_ | refine go_v rfl (.yes rfl rfl rfl) rfl (o_fld rfl) ?_
 refine go_v rfl (.yes rfl rfl rfl) rfl (o_loadS rfl (flat_get tkC 4 tkC_len hat (show (tkC t)[0]? = some _ from rfl))) ?_
 refine go_v rfl (.yes rfl rfl rfl) rfl (o_is (c := false) (by exact decide_eq_false (by (try dsimp only); omega)) (o_eql rfl rfl)) ?_
 refine go_v rfl .none rfl (o_pickF rfl rfl rfl) ?_
 refine go_v rfl .none rfl (o_move rfl) ?_
 refine go_v rfl (.yes rfl rfl rfl) rfl (o_move rfl) ?_
 refine go_v rfl (.yes rfl rfl rfl) rfl (o_nil rfl) ?_
 first | refine go_v rfl (.yes rfl rfl rfl) rfl (o_fldS rfl) ?_ | refine go_v rfl (.yes rfl rfl rfl) rfl (o_fld rfl) ?_
 first | refine go_v rfl (.yes rfl rfl rfl) rfl (o_load rfl rfl) ?_ | refine go_v rfl (.yes rfl rfl rfl) rfl (o_loadS rfl rfl) ?_ | refine go_v rfl (.yes rfl rfl rfl) rfl (o_loadC rfl) ?_
 refine go_v rfl (.yes rfl rfl rfl) rfl (o_move rfl) ?_
 refine go_v rfl (.yes rfl rfl rfl) rfl (o_nil rfl) ?_
 first | refine go_v rfl (.yes rfl rfl rfl) rfl (o_fldS rfl) ?_ | refine go_v rfl (.yes rfl rfl rfl) rfl (o_fld rfl) ?_
 first | refine go_v rfl (.yes rfl rfl rfl) rfl (o_load rfl rfl) ?_ | refine go_v rfl (.yes rfl rfl rfl) rfl (o_loadS rfl rfl) ?_ | refine go_v rfl (.yes rfl rfl rfl) rfl (o_loadC rfl) ?_
 refine go_v rfl (.yes rfl rfl rfl) rfl (o_idxS rfl rfl hi) ?_
 first | refine go_v rfl (.yes rfl rfl rfl) rfl (o_fldS rfl) ?_ | refine go_v rfl (.yes rfl rfl rfl) rfl (o_fld rfl) ?_
 refine go_v rfl (.yes rfl rfl rfl) rfl (o_loadS rfl (flat_get tkC 4 tkC_len hat (show (tkC t)[1]? = some _ from rfl))) ?_
 refine go_v rfl (.yes rfl rfl rfl) rfl (o_move rfl) ?_
 refine go_v rfl (.yes rfl rfl rfl) rfl (o_is (c := false) (by simp [hx]) (o_neqs rfl rfl)) ?_
 refine go_v rfl .none rfl (o_pickF rfl rfl rfl) ?_
 refine go_nil ?_
 refine ge_then ?_
 refine g_cond_false rfl ?_
 refine g_skip ?_
 refine ge_then ?_
 refine g_seq ?_
 refine g_region ?_
 refine gl_v rfl (o_move rfl) ?_
 refine gl_v rfl (o_nil rfl) ?_
 first | refine gl_v rfl (o_fldS rfl) ?_ | refine gl_v rfl (o_fld rfl) ?_
 first | refine gl_v rfl (o_load rfl rfl) ?_ | refine gl_v rfl (o_loadS rfl rfl) ?_ | refine gl_v rfl (o_loadC rfl) ?_
 refine gl_v rfl (o_addR ((L.length - T.length : Nat) : Int) (by (try dsimp only); rw [wr_i64 (by omega)]; omega) rfl rfl) ?_
 refine gl_v rfl (o_nil rfl) ?_
 first | refine gl_v rfl (o_fldS rfl) ?_ | refine gl_v rfl (o_fld rfl) ?_
 first | refine gl_u (o_store rfl rfl rfl rfl) ?_ | refine gl_u (o_storeS rfl rfl rfl (by first | assumption | omega | simp)) ?_
 refine gl_nil ?_
 refine ge_then ?_
 refine g_seq ?_
 refine g_region ?_
 refine gl_v rfl (o_assign rfl) ?_
 refine gl_nil ?_
 refine ge_then ?_
 refine g_ret ?_
 refine ret1 (.inl rfl) rfl rfl [txt p la lc L (T, false), tksA la lc L] (⟨rfl, rfl⟩) (tO)

theorem word_spec (p : Nat) (la : Option Addr) (lc : Nat) (L : List Tk) (hL : L.length ≤ 16384) (σ : Sg) (s : By) (hs : Suf σ.1 L) : FnS Tryz.prog 58 [ptr p 0, S s] [txt p la lc L (σ), tksA la lc L] (fun u Bs => u = .bool (wordB s σ) ∧ Bs = [txt p la lc L (wordS s σ), tksA la lc L]) := by
  rcases sg_cases σ with ⟨T, rfl⟩ | rfl | ⟨t, T, rfl⟩
  · exact word_bad p la lc L hL s T
  · exact word_nil p la lc L hL s
  · by_cases hk : t.kind = 2
    · have hw : wordB s (t :: T, false) = false := by rw [wordB_cons, decide_eq_true hk]; rfl
      rw [wordS_F hw, hw]; exact word_k2 p la lc L hL s t T hs hk
    · by_cases hx : t.text = s
      · have hw : wordB s (t :: T, false) = true := by rw [wordB_cons, decide_eq_false hk, decide_eq_true hx]; rfl
        rw [wordS_T hw, hw]; exact word_yes p la lc L hL s t T hs hk hx
      · have hw : wordB s (t :: T, false) = false := by rw [wordB_cons, decide_eq_false hx, Bool.and_false]
        rw [wordS_F hw, hw]; exact word_ne p la lc L hL s t T hs hk hx

set_option maxRecDepth 8000 in
set_option maxHeartbeats 1000000 in
theorem mustR_spec (p : Nat) (la : Option Addr) (lc : Nat) (L : List Tk) (hL : L.length ≤ 16384) (σ : Sg) (s : By) (hs : Suf σ.1 L) : FnS Tryz.prog 26 [ptr p 0, S s] [txt p la lc L (σ), tksA la lc L] (fun u Bs => u = .tuple #[] ∧ Bs = [txt p la lc L (mustS s σ), tksA la lc L]) := by
 refine fn_body Tryz.func26 rfl rfl rfl ?_
 intro W0 R
 simp only [List.zipIdx_cons, List.zipIdx_nil, List.map_cons, List.map_nil, Nat.zero_add, Nat.reduceAdd, List.cons_append, List.nil_append]
 refine g_seq ?_
 refine g_region ?_
 refine gl_v rfl (o_move rfl) ?_
 refine gl_v rfl (o_move rfl) ?_
 refine gl_c rfl (o_call rfl (word_spec p la lc L hL (σ) (s) (hs)) pA) ?_
 rintro _ R ⟨_, ⟨rfl, rfl⟩, rfl⟩
 try simp only [List.cons_append, List.nil_append]
 refine gl_v rfl (o_not rfl) ?_
 refine gl_nil ?_
 refine ge_then ?_
 refine g_cond rfl (fun hc1 => ?_) (fun hc1 => ?_)
 ·
  replace hc1 := hs_ hc1
  have hw : wordB (s) (σ) = false := by simpa using hc1
  rw [wordS_F hw]
  refine g_region ?_
  refine gl_v rfl (o_move rfl) ?_
  refine gl_v rfl (o_nil rfl) ?_
  first | refine gl_v rfl (o_fldS rfl) ?_ | refine gl_v rfl (o_fld rfl) ?_
  first | refine gl_u (o_store rfl rfl rfl rfl) ?_ | refine gl_u (o_storeS rfl rfl rfl (by first | assumption | omega | simp)) ?_
  refine gl_nil ?_
  refine ret0 (.inr rfl) rfl [txt p la lc L (mustS s σ), tksA la lc L] (⟨rfl, rfl⟩) (by unfold mustS; rw [hw, if_neg (by decide)]; exact (tO))
 ·
  replace hc1 := hs_ hc1
  have hw : wordB (s) (σ) = true := by simpa using hc1
  rw [wordS_T hw]
  refine g_skip ?_
  refine ret0 (.inr rfl) rfl [txt p la lc L (mustS s σ), tksA la lc L] (⟨rfl, rfl⟩) (by unfold mustS; rw [hw, if_pos rfl]; exact (tO))

set_option maxRecDepth 8000 in
set_option maxHeartbeats 1000000 in
theorem one_bad (p : Nat) (la : Option Addr) (lc : Nat) (L : List Tk) (hL : L.length ≤ 16384) (k : Nat) (T : List Tk) : FnS Tryz.prog 59 [ptr p 0, I64 (k : Nat)] [txt p la lc L (T, true), tksA la lc L] (fun u Bs => u = .agg (tkC (tk0)).toArray ∧ Bs = [txt p la lc L (T, true), tksA la lc L]) := by
 refine fn_body Tryz.func59 rfl rfl rfl ?_
 intro W0 R
 simp only [List.zipIdx_cons, List.zipIdx_nil, List.map_cons, List.map_nil, Nat.zero_add, Nat.reduceAdd, List.cons_append, List.nil_append]
 refine g_seq ?_
 refine g_region ?_
 refine gl_n rfl (o_alloc) ?_
 rintro _ _ ⟨b4, rfl, rfl⟩
 refine gl_nil ?_
 refine ge_then ?_
 refine g_seq ?_
 refine g_seq ?_
 refine g_draw [] [] [(0, .loc), (1, .loc), (2, .loc), (3, .loc), (4, .loc), (5, .loc), (6, .loc), (7, .loc), (8, .loc), (9, .loc), (10, .loc), (11, .loc), (12, .loc), (13, .loc), (14, .loc), (15, .loc), (16, .loc), (17, .loc), (18, .loc), (19, .loc), (20, .loc), (21, .loc), (22, .loc), (23, .loc), (24, .loc), (25, .loc), (26, .loc), (27, .loc), (28, .loc), (29, .loc), (30, .loc)] [txt p la lc L (T, true), tksA la lc L] mixed (by kernel_rfl) ?_
 refine go_v rfl .none rfl (o_move rfl) ?_
 refine go_v rfl .none rfl (o_nil rfl) ?_
 first | refine go_v rfl .none rfl (o_fldS rfl) ?_ | refine go_v rfl .none rfl (o_fld rfl) ?_
 refine go_v rfl .none rfl (o_is (c := true) (by rfl) (o_load rfl rfl)) ?_
 refine go_v rfl .none rfl (o_move rfl) ?_
 refine go_skip rfl (.no rfl rfl rfl) rfl ?_
 refine go_skip rfl (.no rfl rfl rfl) rfl ?_
 refine go_skip rfl (.no rfl rfl rfl) rfl ?_
 refine go_skip rfl (.no rfl rfl rfl) rfl ?_
 refine go_skip rfl (.no rfl rfl rfl) rfl ?_
 refine go_skip rfl (.no rfl rfl rfl) rfl ?_
 refine go_skip rfl (.no rfl rfl rfl) rfl ?_
 refine go_skip rfl (.no rfl rfl rfl) rfl ?_
 refine go_skip rfl (.no rfl rfl rfl) rfl ?_
 refine go_skip rfl (.no rfl rfl rfl) rfl ?_
 refine go_v rfl .none rfl (o_pickT rfl rfl rfl) ?_
 refine go_v rfl .none rfl (o_move rfl) ?_
 refine go_skip rfl (.no rfl rfl rfl) rfl ?_
 refine go_skip rfl (.no rfl rfl rfl) rfl ?_
 refine go_skip rfl (.no rfl rfl rfl) rfl ?_
 refine go_skip rfl (.no rfl rfl rfl) rfl ?_
 refine go_skip rfl (.no rfl rfl rfl) rfl ?_
 refine go_skip rfl (.no rfl rfl rfl) rfl ?_
 refine go_skip rfl (.no rfl rfl rfl) rfl ?_
 refine go_skip rfl (.no rfl rfl rfl) rfl ?_
 refine go_skip rfl (.no rfl rfl rfl) rfl ?_
 refine go_skip rfl (.no rfl rfl rfl) rfl ?_
 refine go_skip rfl (.no rfl rfl rfl) rfl ?_
 refine go_skip rfl (.no rfl rfl rfl) rfl ?_
 refine go_skip rfl (.no rfl rfl rfl) rfl ?_
 refine go_v rfl .none rfl (o_pickT rfl rfl rfl) ?_
 refine go_nil ?_
 refine ge_then ?_
 refine g_cond_true rfl ?_
 refine g_seq ?_
 refine g_region ?_
 refine gl_v rfl (o_move rfl) ?_
 refine gl_v rfl (o_nil rfl) ?_
 first | refine gl_v rfl (o_fldS rfl) ?_ | refine gl_v rfl (o_fld rfl) ?_
 first | refine gl_u (o_store rfl rfl rfl rfl) ?_ | refine gl_u (o_storeS rfl rfl rfl (by first | assumption | omega | simp)) ?_
 refine gl_nil ?_
 refine ge_then ?_
 refine g_seq ?_
 refine g_region ?_
 refine gl_v rfl (o_build rfl rfl) ?_
 first | refine gl_u (o_storeSA rfl rfl rfl rfl (by simp; omega) (by simp)) ?_ | refine gl_u (o_storeA rfl rfl rfl rfl rfl) ?_
 refine gl_nil ?_
 refine ge_then ?_
 refine g_ret ?_
 refine ge_then_ret ?_
 refine ret1c (.inl rfl) rfl rfl rfl rfl [txt p la lc L (T, true), tksA la lc L] (⟨rfl, rfl⟩) (tO)

set_option maxRecDepth 8000 in
set_option maxHeartbeats 1000000 in
theorem one_nil (p : Nat) (la : Option Addr) (lc : Nat) (L : List Tk) (hL : L.length ≤ 16384) (k : Nat) : FnS Tryz.prog 59 [ptr p 0, I64 (k : Nat)] [txt p la lc L ([], false), tksA la lc L] (fun u Bs => u = .agg (tkC (tk0)).toArray ∧ Bs = [txt p la lc L ([], true), tksA la lc L]) := by
 refine fn_body Tryz.func59 rfl rfl rfl ?_
 intro W0 R
 simp only [List.zipIdx_cons, List.zipIdx_nil, List.map_cons, List.map_nil, Nat.zero_add, Nat.reduceAdd, List.cons_append, List.nil_append]
 refine g_seq ?_
 refine g_region ?_
 refine gl_n rfl (o_alloc) ?_
 rintro _ _ ⟨b4, rfl, rfl⟩
 refine gl_nil ?_
 refine ge_then ?_
 refine g_seq ?_
 refine g_seq ?_
 refine g_draw [] [] [(0, .loc), (1, .loc), (2, .loc), (3, .loc), (4, .loc), (5, .loc), (6, .loc), (7, .loc), (8, .loc), (9, .loc), (10, .loc), (11, .loc), (12, .loc), (13, .loc), (14, .loc), (15, .loc), (16, .loc), (17, .loc), (18, .loc), (19, .loc), (20, .loc), (21, .loc), (22, .loc), (23, .loc), (24, .loc), (25, .loc), (26, .loc), (27, .loc), (28, .loc), (29, .loc), (30, .loc)] [txt p la lc L ([], false), tksA la lc L] mixed (by kernel_rfl) ?_
 refine go_v rfl .none rfl (o_move rfl) ?_
 refine go_v rfl .none rfl (o_nil rfl) ?_
 first | refine go_v rfl .none rfl (o_fldS rfl) ?_ | refine go_v rfl .none rfl (o_fld rfl) ?_
 refine go_v rfl .none rfl (o_is (c := false) (by rfl) (o_load rfl rfl)) ?_
 refine go_v rfl .none rfl (o_move rfl) ?_
 refine go_v rfl (.yes rfl rfl rfl) rfl (o_move rfl) ?_
 refine go_v rfl (.yes rfl rfl rfl) rfl (o_nil rfl) ?_
 first | refine go_v rfl (.yes rfl rfl rfl) rfl (o_fldS rfl) ?_ | refine go_v rfl (.yes rfl rfl rfl) rfl (o_fld rfl) ?_
 first | refine go_v rfl (.yes rfl rfl rfl) rfl (o_load rfl rfl) ?_ | refine go_v rfl (.yes rfl rfl rfl) rfl (o_loadS rfl rfl) ?_ | refine go_v rfl (.yes rfl rfl rfl) rfl (o_loadC rfl) ?_
 refine go_v rfl (.yes rfl rfl rfl) rfl (o_move rfl) ?_
 refine go_v rfl (.yes rfl rfl rfl) rfl (o_nil rfl) ?_
 first | refine go_v rfl (.yes rfl rfl rfl) rfl (o_fldS rfl) ?_ | refine go_v rfl (.yes rfl rfl rfl) rfl (o_fld rfl) ?_
 first | refine go_v rfl (.yes rfl rfl rfl) rfl (o_load rfl rfl) ?_ | refine go_v rfl (.yes rfl rfl rfl) rfl (o_loadS rfl rfl) ?_ | refine go_v rfl (.yes rfl rfl rfl) rfl (o_loadC rfl) ?_
 first | refine go_v rfl (.yes rfl rfl rfl) rfl (o_len rfl) ?_ | refine go_v rfl (.yes rfl rfl rfl) rfl (o_lenL rfl) ?_
 refine go_v rfl (.yes rfl rfl rfl) rfl (o_is (c := true) (by exact decide_eq_true (by simp only [List.length_nil]; omega)) (o_geq rfl rfl)) ?_
 refine go_v rfl .none rfl (o_pickF rfl rfl rfl) ?_
 refine go_v rfl .none rfl (o_move rfl) ?_
 refine go_skip rfl (.no rfl rfl rfl) rfl ?_
 refine go_skip rfl (.no rfl rfl rfl) rfl ?_
 refine go_skip rfl (.no rfl rfl rfl) rfl ?_
 refine go_skip rfl (.no rfl rfl rfl) rfl ?_
 refine go_skip rfl (.no rfl rfl rfl) rfl ?_
 refine go_skip rfl (.no rfl rfl rfl) rfl ?_
 refine go_skip rfl (.no rfl rfl rfl) rfl ?_
 refine go_skip rfl (.no rfl rfl rfl) rfl ?_
 refine go_skip rfl (.no rfl rfl rfl) rfl ?_
 refine go_skip rfl (.no rfl rfl rfl) rfl ?_
 refine go_skip rfl (.no rfl rfl rfl) rfl ?_
 refine go_skip rfl (.no rfl rfl rfl) rfl ?_
 refine go_skip rfl (.no rfl rfl rfl) rfl ?_
 refine go_v rfl .none rfl (o_pickT rfl rfl rfl) ?_
 refine go_nil ?_
 refine ge_then ?_
 refine g_cond_true rfl ?_
 refine g_seq ?_
 refine g_region ?_
 refine gl_v rfl (o_move rfl) ?_
 refine gl_v rfl (o_nil rfl) ?_
 first | refine gl_v rfl (o_fldS rfl) ?_ | refine gl_v rfl (o_fld rfl) ?_
 first | refine gl_u (o_store rfl rfl rfl rfl) ?_ | refine gl_u (o_storeS rfl rfl rfl (by first | assumption | omega | simp)) ?_
 refine gl_nil ?_
 refine ge_then ?_
 refine g_seq ?_
 refine g_region ?_
 refine gl_v rfl (o_build rfl rfl) ?_
 first | refine gl_u (o_storeSA rfl rfl rfl rfl (by simp; omega) (by simp)) ?_ | refine gl_u (o_storeA rfl rfl rfl rfl rfl) ?_
 refine gl_nil ?_
 refine ge_then ?_
 refine g_ret ?_
 refine ge_then_ret ?_
 refine ret1c (.inl rfl) rfl rfl rfl rfl [txt p la lc L ([], true), tksA la lc L] (⟨rfl, rfl⟩) (tO)

set_option maxRecDepth 8000 in
set_option maxHeartbeats 1000000 in
theorem one_ne (p : Nat) (la : Option Addr) (lc : Nat) (L : List Tk) (hL : L.length ≤ 16384) (k : Nat) (t : Tk) (T : List Tk) (hs : Suf (t :: T) L) (hk : ¬ t.kind = k) : FnS Tryz.prog 59 [ptr p 0, I64 (k : Nat)] [txt p la lc L (t :: T, false), tksA la lc L] (fun u Bs => u = .agg (tkC (tk0)).toArray ∧ Bs = [txt p la lc L (t :: T, true), tksA la lc L]) := by
 refine fn_body Tryz.func59 rfl rfl rfl ?_
 intro W0 R
 simp only [List.zipIdx_cons, List.zipIdx_nil, List.map_cons, List.map_nil, Nat.zero_add, Nat.reduceAdd, List.cons_append, List.nil_append]
 have hl1 := hs.1
 have hlc : (t :: T).length = T.length + 1 := rfl
 have hi : L.length - (t :: T).length < L.length := by omega
 have hat := at_cons hs
 refine g_seq ?_
 refine g_region ?_
 refine gl_n rfl (o_alloc) ?_
 rintro _ _ ⟨b4, rfl, rfl⟩
 refine gl_nil ?_
 refine ge_then ?_
 refine g_seq ?_
 refine g_seq ?_
 refine g_draw [] [] [(0, .loc), (1, .loc), (2, .loc), (3, .loc), (4, .loc), (5, .loc), (6, .loc), (7, .loc), (8, .loc), (9, .loc), (10, .loc), (11, .loc), (12, .loc), (13, .loc), (14, .loc), (15, .loc), (16, .loc), (17, .loc), (18, .loc), (19, .loc), (20, .loc), (21, .loc), (22, .loc), (23, .loc), (24, .loc), (25, .loc), (26, .loc), (27, .loc), (28, .loc), (29, .loc), (30, .loc)] [txt p la lc L (t :: T, false), tksA la lc L] mixed (by kernel_rfl) ?_
 refine go_v rfl .none rfl (o_move rfl) ?_
 refine go_v rfl .none rfl (o_nil rfl) ?_
 first | refine go_v rfl .none rfl (o_fldS rfl) ?_ | refine go_v rfl .none rfl (o_fld rfl) ?_
 refine go_v rfl .none rfl (o_is (c := false) (by rfl) (o_load rfl rfl)) ?_
 refine go_v rfl .none rfl (o_move rfl) ?_
 refine go_v rfl (.yes rfl rfl rfl) rfl (o_move rfl) ?_
 refine go_v rfl (.yes rfl rfl rfl) rfl (o_nil rfl) ?_
 first | refine go_v rfl (.yes rfl rfl rfl) rfl (o_fldS rfl) ?_ | refine go_v rfl (.yes rfl rfl rfl) rfl (o_fld rfl) ?_
 first | refine go_v rfl (.yes rfl rfl rfl) rfl (o_load rfl rfl) ?_ | refine go_v rfl (.yes rfl rfl rfl) rfl (o_loadS rfl rfl) ?_ | refine go_v rfl (.yes rfl rfl rfl) rfl (o_loadC rfl) ?_
 refine go_v rfl (.yes rfl rfl rfl) rfl (o_move rfl) ?_
 refine go_v rfl (.yes rfl rfl rfl) rfl (o_nil rfl) ?_
 first | refine go_v rfl (.yes rfl rfl rfl) rfl (o_fldS rfl) ?_ | refine go_v rfl (.yes rfl rfl rfl) rfl (o_fld rfl) ?_
 first | refine go_v rfl (.yes rfl rfl rfl) rfl (o_load rfl rfl) ?_ | refine go_v rfl (.yes rfl rfl rfl) rfl (o_loadS rfl rfl) ?_ | refine go_v rfl (.yes rfl rfl rfl) rfl (o_loadC rfl) ?_
 first | refine go_v rfl (.yes rfl rfl rfl) rfl (o_len rfl) ?_ | refine go_v rfl (.yes rfl rfl rfl) rfl (o_lenL rfl) ?_
 refine go_v rfl (.yes rfl rfl rfl) rfl (o_is (c := false) (by exact decide_eq_false (by (try dsimp only); omega)) (o_geq rfl rfl)) ?_
 refine go_v rfl .none rfl (o_pickF rfl rfl rfl) ?_
 refine go_v rfl .none rfl (o_move rfl) ?_
 refine go_v rfl (.yes rfl rfl rfl) rfl (o_move rfl) ?_
 refine go_v rfl (.yes rfl rfl rfl) rfl (o_nil rfl) ?_
 first | refine go_v rfl (.yes rfl rfl rfl) rfl (o_fldS rfl) ?_ | refine go_v rfl (.yes rfl rfl rfl) rfl (o_fld rfl) ?_
 first | refine go_v rfl (.yes rfl rfl rfl) rfl (o_load rfl rfl) ?_ | refine go_v rfl (.yes rfl rfl rfl) rfl (o_loadS rfl rfl) ?_ | refine go_v rfl (.yes rfl rfl rfl) rfl (o_loadC rfl) ?_
 refine go_v rfl (.yes rfl rfl rfl) rfl (o_move rfl) ?_
 refine go_v rfl (.yes rfl rfl rfl) rfl (o_nil rfl) ?_
 first | refine go_v rfl (.yes rfl rfl rfl) rfl (o_fldS rfl) ?_ | refine go_v rfl (.yes rfl rfl rfl) rfl (o_fld rfl) ?_
 first | refine go_v rfl (.yes rfl rfl rfl) rfl (o_load rfl rfl) ?_ | refine go_v rfl (.yes rfl rfl rfl) rfl (o_loadS rfl rfl) ?_ | refine go_v rfl (.yes rfl rfl rfl) rfl (o_loadC rfl) ?_
 refine go_v rfl (.yes rfl rfl rfl) rfl (o_idxS rfl rfl hi) ?_
 first | refine go_v rfl (.yes rfl rfl rfl) rfl (o_fldS rfl) ?_ | refine go_v rfl (.yes rfl rfl rfl) rfl (o_fld rfl) ?_
 refine go_v rfl (.yes rfl rfl rfl) rfl (o_loadS rfl (flat_get tkC 4 tkC_len hat (show (tkC t)[0]? = some _ from rfl))) ?_
 refine go_v rfl (.yes rfl rfl rfl) rfl (o_move rfl) ?_
 refine go_v rfl (.yes rfl rfl rfl) rfl (o_is (c := true) (by simp; omega) (o_neq rfl rfl)) ?_
 refine go_v rfl .none rfl (o_pickF rfl rfl rfl) ?_
 refine go_nil ?_
 refine ge_then ?_
 refine g_cond_true rfl ?_
 refine g_seq ?_
 refine g_region ?_
 refine gl_v rfl (o_move rfl) ?_
 refine gl_v rfl (o_nil rfl) ?_
 first | refine gl_v rfl (o_fldS rfl) ?_ | refine gl_v rfl (o_fld rfl) ?_
 first | refine gl_u (o_store rfl rfl rfl rfl) ?_ | refine gl_u (o_storeS rfl rfl rfl (by first | assumption | omega | simp)) ?_
 refine gl_nil ?_
 refine ge_then ?_
 refine g_seq ?_
 refine g_region ?_
 refine gl_v rfl (o_build rfl rfl) ?_
 first | refine gl_u (o_storeSA rfl rfl rfl rfl (by simp; omega) (by simp)) ?_ | refine gl_u (o_storeA rfl rfl rfl rfl rfl) ?_
 refine gl_nil ?_
 refine ge_then ?_
 refine g_ret ?_
 refine ge_then_ret ?_
 refine ret1c (.inl rfl) rfl rfl rfl rfl [txt p la lc L (t :: T, true), tksA la lc L] (⟨rfl, rfl⟩) (tO)

set_option maxRecDepth 8000 in
set_option maxHeartbeats 1000000 in
theorem one_yes (p : Nat) (la : Option Addr) (lc : Nat) (L : List Tk) (hL : L.length ≤ 16384) (k : Nat) (t : Tk) (T : List Tk) (hs : Suf (t :: T) L) (hk : t.kind = k) : FnS Tryz.prog 59 [ptr p 0, I64 (k : Nat)] [txt p la lc L (t :: T, false), tksA la lc L] (fun u Bs => u = .agg (tkC (t)).toArray ∧ Bs = [txt p la lc L (T, false), tksA la lc L]) := by
 refine fn_body Tryz.func59 rfl rfl rfl ?_
 intro W0 R
 simp only [List.zipIdx_cons, List.zipIdx_nil, List.map_cons, List.map_nil, Nat.zero_add, Nat.reduceAdd, List.cons_append, List.nil_append]
 have hl1 := hs.1
 have hlc : (t :: T).length = T.length + 1 := rfl
 have hi : L.length - (t :: T).length < L.length := by omega
 have hat := at_cons hs
 refine g_seq ?_
 refine g_region ?_
 refine gl_n rfl (o_alloc) ?_
 rintro _ _ ⟨b4, rfl, rfl⟩
 refine gl_nil ?_
 refine ge_then ?_
 refine g_seq ?_
 refine g_seq ?_
 refine g_draw [] [] [(0, .loc), (1, .loc), (2, .loc), (3, .loc), (4, .loc), (5, .loc), (6, .loc), (7, .loc), (8, .loc), (9, .loc), (10, .loc), (11, .loc), (12, .loc), (13, .loc), (14, .loc), (15, .loc), (16, .loc), (17, .loc), (18, .loc), (19, .loc), (20, .loc), (21, .loc), (22, .loc), (23, .loc), (24, .loc), (25, .loc), (26, .loc), (27, .loc), (28, .loc), (29, .loc), (30, .loc)] [txt p la lc L (t :: T, false), tksA la lc L] mixed (by kernel_rfl) ?_
 refine go_v rfl .none rfl (o_move rfl) ?_
 refine go_v rfl .none rfl (o_nil rfl) ?_
 first | refine go_v rfl .none rfl (o_fldS rfl) ?_ | refine go_v rfl .none rfl (o_fld rfl) ?_
 refine go_v rfl .none rfl (o_is (c := false) (by rfl) (o_load rfl rfl)) ?_
 refine go_v rfl .none rfl (o_move rfl) ?_
 refine go_v rfl (.yes rfl rfl rfl) rfl (o_move rfl) ?_
 refine go_v rfl (.yes rfl rfl rfl) rfl (o_nil rfl) ?_
 first | refine go_v rfl (.yes rfl rfl rfl) rfl (o_fldS rfl) ?_ | refine go_v rfl (.yes rfl rfl rfl) rfl (o_fld rfl) ?_
 first | refine go_v rfl (.yes rfl rfl rfl) rfl (o_load rfl rfl) ?_ | refine go_v rfl (.yes rfl rfl rfl) rfl (o_loadS rfl rfl) ?_ | refine go_v rfl (.yes rfl rfl rfl) rfl (o_loadC rfl) ?_
 refine go_v rfl (.yes rfl rfl rfl) rfl (o_move rfl) ?_
 refine go_v rfl (.yes rfl rfl rfl) rfl (o_nil rfl) ?_
 first | refine go_v rfl (.yes rfl rfl rfl) rfl (o_fldS rfl) ?_ | refine go_v rfl (.yes rfl rfl rfl) rfl (o_fld rfl) ?_
 first | refine go_v rfl (.yes rfl rfl rfl) rfl (o_load rfl rfl) ?_ | refine go_v rfl (.yes rfl rfl rfl) rfl (o_loadS rfl rfl) ?_ | refine go_v rfl (.yes rfl rfl rfl) rfl (o_loadC rfl) ?_
 first | refine go_v rfl (.yes rfl rfl rfl) rfl (o_len rfl) ?_ | refine go_v rfl (.yes rfl rfl rfl) rfl (o_lenL rfl) ?_
 refine go_v rfl (.yes rfl rfl rfl) rfl (o_is (c := false) (by exact decide_eq_false (by (try dsimp only); omega)) (o_geq rfl rfl)) ?_
 refine go_v rfl .none rfl (o_pickF rfl rfl rfl) ?_
 refine go_v rfl .none rfl (o_move rfl) ?_
 refine go_v rfl (.yes rfl rfl rfl) rfl (o_move rfl) ?_
 refine go_v rfl (.yes rfl rfl rfl) rfl (o_nil rfl) ?_
 first | refine go_v rfl (.yes rfl rfl rfl) rfl (o_fldS rfl) ?_ | refine go_v rfl (.yes rfl rfl rfl) rfl (o_fld rfl) ?_
 first | refine go_v rfl (.yes rfl rfl rfl) rfl (o_load rfl rfl) ?_ | refine go_v rfl (.yes rfl rfl rfl) rfl (o_loadS rfl rfl) ?_ | refine go_v rfl (.yes rfl rfl rfl) rfl (o_loadC rfl) ?_
 refine go_v rfl (.yes rfl rfl rfl) rfl (o_move rfl) ?_
 refine go_v rfl (.yes rfl rfl rfl) rfl (o_nil rfl) ?_
 first | refine go_v rfl (.yes rfl rfl rfl) rfl (o_fldS rfl) ?_ | refine go_v rfl (.yes rfl rfl rfl) rfl (o_fld rfl) ?_
 first | refine go_v rfl (.yes rfl rfl rfl) rfl (o_load rfl rfl) ?_ | refine go_v rfl (.yes rfl rfl rfl) rfl (o_loadS rfl rfl) ?_ | refine go_v rfl (.yes rfl rfl rfl) rfl (o_loadC rfl) ?_
 refine go_v rfl (.yes rfl rfl rfl) rfl (o_idxS rfl rfl hi) ?_
 first | refine go_v rfl (.yes rfl rfl rfl) rfl (o_fldS rfl) ?_ | refine go_v rfl (.yes rfl rfl rfl) rfl (o_fld rfl) ?_
 refine go_v rfl (.yes rfl rfl rfl) rfl (o_loadS rfl (flat_get tkC 4 tkC_len hat (show (tkC t)[0]? = some _ from rfl))) ?_
 refine go_v rfl (.yes rfl rfl rfl) rfl (o_move rfl) ?_
 refine go_v rfl (.yes rfl rfl rfl) rfl (o_is (c := false) (by (simp <;> omega)) (o_neq rfl rfl)) ?_
 refine go_v rfl .none rfl (o_pickF rfl rfl rfl) ?_
 refine go_nil ?_
 refine ge_then ?_
 refine g_cond_false rfl ?_
 refine g_skip ?_
 refine ge_then ?_
 refine g_seq ?_
 refine g_region ?_
 refine gl_v rfl (o_move rfl) ?_
 refine gl_v rfl (o_nil rfl) ?_
 first | refine gl_v rfl (o_fldS rfl) ?_ | refine gl_v rfl (o_fld rfl) ?_
 first | refine gl_v rfl (o_load rfl rfl) ?_ | refine gl_v rfl (o_loadS rfl rfl) ?_ | refine gl_v rfl (o_loadC rfl) ?_
 refine gl_v rfl (o_addR ((L.length - T.length : Nat) : Int) (by (try dsimp only); rw [wr_i64 (by omega)]; omega) rfl rfl) ?_
 refine gl_v rfl (o_nil rfl) ?_
 first | refine gl_v rfl (o_fldS rfl) ?_ | refine gl_v rfl (o_fld rfl) ?_
 first | refine gl_u (o_store rfl rfl rfl rfl) ?_ | refine gl_u (o_storeS rfl rfl rfl (by first | assumption | omega | simp)) ?_
 refine gl_nil ?_
 refine ge_then ?_
 refine g_seq ?_
 refine g_draw [11] [] [(0, .loc), (1, .loc), (2, .loc), (3, .loc), (4, .loc), (5, .loc), (6, .loc), (7, .loc), (8, .loc), (9, .loc), (10, .loc), (11, .eff)] [txt p la lc L (T, false), tksA la lc L] mixed (by kernel_rfl) ?_
 refine go_v rfl .none rfl (o_move rfl) ?_
 refine go_v rfl .none rfl (o_nil rfl) ?_
 first | refine go_v rfl .none rfl (o_fldS rfl) ?_ | refine go_v rfl .none rfl (o_fld rfl) ?_
 first | refine go_v rfl .none rfl (o_load rfl rfl) ?_ | refine go_v rfl .none rfl (o_loadS rfl rfl) ?_ | refine go_v rfl .none rfl (o_loadC rfl) ?_
 refine go_v rfl .none rfl (o_move rfl) ?_
 refine go_v rfl .none rfl (o_nil rfl) ?_
 first | refine go_v rfl .none rfl (o_fldS rfl) ?_ | refine go_v rfl .none rfl (o_fld rfl) ?_
 first | refine go_v rfl .none rfl (o_load rfl rfl) ?_ | refine go_v rfl .none rfl (o_loadS rfl rfl) ?_ | refine go_v rfl .none rfl (o_loadC rfl) ?_
 refine go_v rfl .none rfl (o_subR ((L.length - (t :: T).length : Nat) : Int) (by (try dsimp only); rw [wr_i64 (by omega)]; omega) rfl rfl) ?_
 refine go_v rfl .none rfl (o_idxS rfl rfl hi) ?_
 refine go_v rfl .none rfl (o_loadSA rfl (flat_take tkC 4 tkC_len hat) rfl) ?_
 first | refine go_u rfl .none (o_storeSA rfl rfl rfl rfl (by simp; omega) (by simp)) (fun hG => absurd hG (by decide)) ?_ | refine go_u rfl .none (o_storeA rfl rfl rfl rfl rfl) (fun hG => absurd hG (by decide)) ?_
 refine go_nil ?_
 refine ge_then ?_
 refine g_ret ?_
 refine ret1c (.inl rfl) rfl rfl rfl rfl [txt p la lc L (T, false), tksA la lc L] (⟨rfl, rfl⟩) (tO)

theorem one_spec (p : Nat) (la : Option Addr) (lc : Nat) (L : List Tk) (hL : L.length ≤ 16384) (k : Nat) (σ : Sg) (hs : Suf σ.1 L) : FnS Tryz.prog 59 [ptr p 0, I64 (k : Nat)] [txt p la lc L (σ), tksA la lc L] (fun u Bs => u = .agg (tkC (oneT k σ)).toArray ∧ Bs = [txt p la lc L (oneS k σ), tksA la lc L]) := by
  rcases sg_cases σ with ⟨T, rfl⟩ | rfl | ⟨t, T, rfl⟩
  · exact one_bad p la lc L hL k T
  · exact one_nil p la lc L hL k
  · by_cases hk : t.kind = k
    · have hw : oneB k (t :: T, false) = true := by rw [oneB_cons, decide_eq_true hk]
      have e1 : oneS k (t :: T, false) = (T, false) := by unfold oneS; rw [hw]; rfl
      have e2 : oneT k (t :: T, false) = t := by unfold oneT; rw [hw]; rfl
      rw [e1, e2]; exact one_yes p la lc L hL k t T hs hk
    · have hw : oneB k (t :: T, false) = false := by rw [oneB_cons, decide_eq_false hk]
      have e1 : oneS k (t :: T, false) = (t :: T, true) := by unfold oneS; rw [hw]; rfl
      have e2 : oneT k (t :: T, false) = tk0 := by unfold oneT; rw [hw]; rfl
      rw [e1, e2]; exact one_ne p la lc L hL k t T hs hk

theorem one_ok {L : List Tk} (hTB : TB L) (k : Nat) {σ : Sg} (hs : Suf σ.1 L) : ok63 (oneT k σ).text.length := by
  have := tk_text (hTB.suf hs) k σ.2
  unfold ok63; exact Nat.le_trans this (by decide)

set_option maxRecDepth 8000 in
set_option maxHeartbeats 3000000 in
theorem effR_spec (p : Nat) (la : Option Addr) (lc : Nat) (L : List Tk) (hL : L.length ≤ 16384) (hTB : TB L) (σ : Sg) (hs : Suf σ.1 L) : FnS Tryz.prog 88 [ptr p 0] [txt p la lc L (σ), tksA la lc L] (fun u Bs => ∃ e τ, u = .agg (effC e).toArray ∧ Bs = [txt p la lc L (τ), tksA la lc L] ∧ outP τ e = runP effP σ ∧ EffOk e) := by
 refine fn_body Tryz.func88 rfl rfl rfl ?_
 intro W0 R
 simp only [List.zipIdx_cons, List.zipIdx_nil, List.map_cons, List.map_nil, Nat.zero_add, Nat.reduceAdd, List.cons_append, List.nil_append]
 refine g_seq ?_
 refine g_region ?_
 refine gl_n rfl (o_alloc) ?_
 rintro _ _ ⟨b2, rfl, rfl⟩
 refine gl_nil ?_
 refine ge_then ?_
 refine g_seq ?_
 refine g_seq ?_
 refine g_region ?_
 refine gl_v rfl (o_assign rfl) ?_
 refine gl_nil ?_
 refine ge_then ?_
 refine g_block ?_
 refine g_loop (ι := Nat) (fun x => x ≤ 12 ∧ runP (effG (VB.drop x) x) σ = runP effP σ) (fun x => [(3, I64 ((x + 1 : Nat) : Int)), (2, ptr b2 0), (0, ptr p 0)]) (fun x => cel b2 59 (effC e0) :: txt p la lc L (σ) :: tksA la lc L :: R) (fun x => 12 - x) 0 (⟨Nat.zero_le _, rfl⟩) (Keep.cons rfl (Keep.cons rfl (Keep.cons rfl (Keep.nil)))) (tO) ?_
 rintro i ⟨hi, hE⟩
 replace hi : i ≤ 12 := hi
 replace hE : runP (effG (VB.drop i) i) σ = runP effP σ := hE
 refine g_seq ?_
 refine g_seq ?_
 refine g_region ?_
 refine gl_v rfl (o_move rfl) ?_
 refine gl_v rfl (o_leq rfl rfl) ?_
 refine gl_nil ?_
 refine ge_then ?_
 refine g_cond rfl (fun hc1 => ?_) (fun hc1 => ?_)
 ·
  replace hc1 := hs_ hc1
  obtain ⟨⟨w, ps⟩, hwj⟩ : ∃ w, VB[i]? = some w := ⟨_, List.getElem?_eq_getElem (show i < VB.length by rw [VB_len]; omega)⟩
  have hvb := VB_vb hwj
  have hps3 : ps.length ≤ 3 := VB_sm _ (List.mem_of_getElem? hwj)
  refine g_skip ?_
  refine ge_then ?_
  refine g_seq ?_
  refine g_block ?_
  refine g_seq ?_
  refine g_region ?_
  refine gl_v rfl (o_move rfl) ?_
  refine gl_c rfl (o_call rfl (VerbR_spec ((i + 1 : Nat) : Int)) pA) ?_
  rintro _ R ⟨_, ⟨rfl, rfl⟩, rfl⟩
  try simp only [List.cons_append, List.nil_append]
  rw [hvb]
  refine gl_v rfl (o_move rfl) ?_
  refine gl_v rfl (o_extract rfl rfl) ?_
  refine gl_v rfl (o_extract rfl rfl) ?_
  refine gl_v rfl (o_assign rfl) ?_
  refine gl_v rfl (o_assign rfl) ?_
  refine gl_nil ?_
  refine ge_then ?_
  refine g_seq ?_
  refine g_seq ?_
  refine g_region ?_
  refine gl_v rfl (o_move rfl) ?_
  refine gl_v rfl (o_move rfl) ?_
  refine gl_c rfl (o_call rfl (word_spec p la lc L hL (σ) (w) (hs)) pA) ?_
  rintro _ R ⟨_, ⟨rfl, rfl⟩, rfl⟩
  try simp only [List.cons_append, List.nil_append]
  refine gl_v rfl (o_not rfl) ?_
  refine gl_nil ?_
  refine ge_then ?_
  refine g_cond rfl (fun hc2 => ?_) (fun hc2 => ?_)
  ·
   replace hc2 := hs_ hc2
   have hw : wordB (w) (σ) = false := by simpa using hc2
   rw [wordS_F hw]
   refine g_exit ?_
   refine ge_then_exit ?_
   refine ge_block_exit ?_
   refine ge_then ?_
   refine g_region ?_
   refine gl_v rfl (o_move rfl) ?_
   refine gl_v rfl (o_addR (((i + 1) + 1 : Nat) : Int) (by rw [wr_i64 (by omega)]; omega) rfl rfl) ?_
   refine gl_v rfl (o_assign rfl) ?_
   refine gl_nil ?_
   refine ge_round (i + 1) ⟨show i + 1 ≤ 12 by omega, by rw [rp_verb0 hwj hw]; exact hE⟩ (by show 12 - (i + 1) < 12 - i; omega) (Keep.cons rfl (Keep.cons rfl (Keep.cons rfl (Keep.nil)))) (tO)
  ·
   replace hc2 := hs_ hc2
   have hw : wordB (w) (σ) = true := by simpa using hc2
   rw [wordS_T hw]
   refine g_skip ?_
   refine ge_then ?_
   refine g_seq ?_
   refine g_region ?_
   refine gl_v rfl (o_move rfl) ?_
   refine gl_v rfl (o_build rfl rfl) ?_
   refine gl_n rfl (o_alloc) ?_
   rintro _ _ ⟨b6, rfl, rfl⟩
   first | refine gl_u (o_storeSA rfl rfl rfl rfl (by simp; omega) (by simp)) ?_ | refine gl_u (o_storeA rfl rfl rfl rfl rfl) ?_
   refine gl_nil ?_
   refine ge_then ?_
   refine g_seq ?_
   refine g_seq ?_
   refine g_region ?_
   refine gl_v rfl (o_assign rfl) ?_
   refine gl_nil ?_
   refine ge_then ?_
   refine g_block ?_
   refine g_loop (ι := Nat × Eff × Sg) (fun x => x.1 ≤ ps.length ∧ runP (partsP (ps.drop x.1) x.2.1) x.2.2 = runP effP σ ∧ Suf x.2.2.1 L ∧ EffOk x.2.1) (fun x => [(7, I64 x.1), (6, ptr b6 0), (5, S ps), (2, ptr b2 0), (0, ptr p 0)]) (fun x => cel b6 59 (effC x.2.1) :: cel b2 59 (effC e0) :: txt p la lc L (x.2.2) :: tksA la lc L :: R) (fun x => ps.length - x.1) (0, { e0 with do' := ((i + 1 : Nat) : Int) }, (σ.1.tail, σ.2)) (⟨Nat.zero_le _, by rw [List.drop_zero, rp_verb hwj hw]; exact hE, (Suf.tail _).trans hs, e0_ok _⟩) (Keep.cons rfl (Keep.cons rfl (Keep.cons rfl (Keep.cons rfl (Keep.cons rfl (Keep.nil)))))) (tO) ?_
   rintro ⟨q, e, τ⟩ ⟨hq, hP, hτ, hok⟩
   replace hq : q ≤ ps.length := hq
   replace hP : runP (partsP (ps.drop q) e) τ = runP effP σ := hP
   replace hτ : Suf τ.1 L := hτ
   replace hok : EffOk e := hok
   dsimp only
   refine g_seq ?_
   refine g_seq ?_
   refine g_region ?_
   refine gl_v rfl (o_move rfl) ?_
   refine gl_v rfl (o_move rfl) ?_
   refine gl_v rfl (o_lens rfl) ?_
   refine gl_v rfl (o_lss rfl rfl) ?_
   refine gl_nil ?_
   refine ge_then ?_
   refine g_cond rfl (fun hc3 => ?_) (fun hc3 => ?_)
   ·
    replace hc3 := hs_ hc3
    obtain ⟨ch, hch⟩ : ∃ t, ps[q]? = some t := ⟨_, List.getElem?_eq_getElem (show q < ps.length by omega)⟩
    refine g_skip ?_
    refine ge_then ?_
    refine g_seq ?_
    refine g_block ?_
    refine g_seq ?_
    refine g_region ?_
    refine gl_v rfl (o_move rfl) ?_
    refine gl_v rfl (o_move rfl) ?_
    refine gl_v rfl (o_index_string rfl rfl (hch)) ?_
    refine gl_nil ?_
    refine ge_then ?_
    refine g_block ?_
    refine g_seq ?_
    refine g_region ?_
    refine gl_v rfl (o_eql rfl rfl) ?_
    refine gl_v rfl (o_assign rfl) ?_
    refine gl_nil ?_
    refine ge_then ?_
    refine g_cond rfl (fun hc4 => ?_) (fun hc4 => ?_)
    ·
     replace hc4 := hs_ hc4
     obtain rfl : ch = 114 := ch_of 114 (by show ch.toNat = 114; omega)
     refine g_region ?_
     refine gl_v rfl (o_move rfl) ?_
     refine gl_c rfl (o_call rfl (one_spec p la lc L hL 1 (τ) (hτ)) pA) ?_
     rintro _ R ⟨_, ⟨rfl, rfl⟩, rfl⟩
     try simp only [List.cons_append, List.nil_append]
     first | refine gl_v rfl (o_field rfl rfl) ?_ | refine gl_v rfl (o_fieldA rfl rfl) ?_
     first | refine gl_v rfl (o_fldS rfl) ?_ | refine gl_v rfl (o_fld rfl) ?_
     first | refine gl_u (o_store rfl rfl rfl rfl) ?_ | refine gl_u (o_storeS rfl rfl rfl (by first | assumption | omega | simp)) ?_
     refine gl_nil ?_
     refine ge_block ?_
     refine ge_block ?_
     refine ge_then ?_
     refine g_region ?_
     refine gl_v rfl (o_move rfl) ?_
     refine gl_v rfl (o_addR ((q + 1 : Nat) : Int) (by rw [wr_i64 (by omega)]; omega) rfl rfl) ?_
     refine gl_v rfl (o_assign rfl) ?_
     refine gl_nil ?_
     refine ge_round (q + 1, { e with ref := (oneT 1 τ).text }, oneS 1 τ) ⟨show q + 1 ≤ ps.length by omega, by rw [← hP]; exact rp_parts hch (rp_part_r e τ), (sv_one 1 τ).trans hτ, ⟨one_ok hTB 1 hτ, hok.slot, hok.name⟩⟩ (by show ps.length - (q + 1) < ps.length - q; omega) (Keep.cons rfl (Keep.cons rfl (Keep.cons rfl (Keep.cons rfl (Keep.cons rfl (Keep.nil)))))) (tO)
    ·
     replace hc4 := hs_ hc4
     refine g_seq ?_
     refine g_region ?_
     refine gl_v rfl (o_eql rfl rfl) ?_
     refine gl_v rfl (o_assign rfl) ?_
     refine gl_nil ?_
     refine ge_then ?_
     refine g_cond rfl (fun hc5 => ?_) (fun hc5 => ?_)
     ·
      replace hc5 := hs_ hc5
      obtain rfl : ch = 115 := ch_of 115 (by show ch.toNat = 115; omega)
      refine g_region ?_
      refine gl_v rfl (o_move rfl) ?_
      refine gl_c rfl (o_call rfl (one_spec p la lc L hL 1 (τ) (hτ)) pA) ?_
      rintro _ R ⟨_, ⟨rfl, rfl⟩, rfl⟩
      try simp only [List.cons_append, List.nil_append]
      first | refine gl_v rfl (o_field rfl rfl) ?_ | refine gl_v rfl (o_fieldA rfl rfl) ?_
      first | refine gl_v rfl (o_fldS rfl) ?_ | refine gl_v rfl (o_fld rfl) ?_
      first | refine gl_u (o_store rfl rfl rfl rfl) ?_ | refine gl_u (o_storeS rfl rfl rfl (by first | assumption | omega | simp)) ?_
      refine gl_nil ?_
      refine ge_block ?_
      refine ge_block ?_
      refine ge_then ?_
      refine g_region ?_
      refine gl_v rfl (o_move rfl) ?_
      refine gl_v rfl (o_addR ((q + 1 : Nat) : Int) (by rw [wr_i64 (by omega)]; omega) rfl rfl) ?_
      refine gl_v rfl (o_assign rfl) ?_
      refine gl_nil ?_
      refine ge_round (q + 1, { e with slot := (oneT 1 τ).text }, oneS 1 τ) ⟨show q + 1 ≤ ps.length by omega, by rw [← hP]; exact rp_parts hch (rp_part_s e τ), (sv_one 1 τ).trans hτ, ⟨hok.ref, one_ok hTB 1 hτ, hok.name⟩⟩ (by show ps.length - (q + 1) < ps.length - q; omega) (Keep.cons rfl (Keep.cons rfl (Keep.cons rfl (Keep.cons rfl (Keep.cons rfl (Keep.nil)))))) (tO)
     ·
      replace hc5 := hs_ hc5
      refine g_seq ?_
      refine g_region ?_
      refine gl_v rfl (o_eql rfl rfl) ?_
      refine gl_v rfl (o_assign rfl) ?_
      refine gl_nil ?_
      refine ge_then ?_
      refine g_cond rfl (fun hc6 => ?_) (fun hc6 => ?_)
      ·
       replace hc6 := hs_ hc6
       obtain rfl : ch = 110 := ch_of 110 (by show ch.toNat = 110; omega)
       refine g_region ?_
       refine gl_v rfl (o_move rfl) ?_
       refine gl_c rfl (o_call rfl (one_spec p la lc L hL 1 (τ) (hτ)) pA) ?_
       rintro _ R ⟨_, ⟨rfl, rfl⟩, rfl⟩
       try simp only [List.cons_append, List.nil_append]
       first | refine gl_v rfl (o_field rfl rfl) ?_ | refine gl_v rfl (o_fieldA rfl rfl) ?_
       first | refine gl_v rfl (o_fldS rfl) ?_ | refine gl_v rfl (o_fld rfl) ?_
       first | refine gl_u (o_store rfl rfl rfl rfl) ?_ | refine gl_u (o_storeS rfl rfl rfl (by first | assumption | omega | simp)) ?_
       refine gl_nil ?_
       refine ge_block ?_
       refine ge_block ?_
       refine ge_then ?_
       refine g_region ?_
       refine gl_v rfl (o_move rfl) ?_
       refine gl_v rfl (o_addR ((q + 1 : Nat) : Int) (by rw [wr_i64 (by omega)]; omega) rfl rfl) ?_
       refine gl_v rfl (o_assign rfl) ?_
       refine gl_nil ?_
       refine ge_round (q + 1, { e with name := (oneT 1 τ).text }, oneS 1 τ) ⟨show q + 1 ≤ ps.length by omega, by rw [← hP]; exact rp_parts hch (rp_part_n e τ), (sv_one 1 τ).trans hτ, ⟨hok.ref, hok.slot, one_ok hTB 1 hτ⟩⟩ (by show ps.length - (q + 1) < ps.length - q; omega) (Keep.cons rfl (Keep.cons rfl (Keep.cons rfl (Keep.cons rfl (Keep.cons rfl (Keep.nil)))))) (tO)
      ·
       replace hc6 := hs_ hc6
       refine g_seq ?_
       refine g_region ?_
       refine gl_v rfl (o_eql rfl rfl) ?_
       refine gl_v rfl (o_assign rfl) ?_
       refine gl_nil ?_
       refine ge_then ?_
       refine g_cond rfl (fun hc7 => ?_) (fun hc7 => ?_)
       ·
        replace hc7 := hs_ hc7
        obtain rfl : ch = 100 := ch_of 100 (by show ch.toNat = 100; omega)
        refine g_region ?_
        refine gl_v rfl (o_move rfl) ?_
        refine gl_c rfl (o_call rfl (one_spec p la lc L hL 2 (τ) (hτ)) pA) ?_
        rintro _ R ⟨_, ⟨rfl, rfl⟩, rfl⟩
        try simp only [List.cons_append, List.nil_append]
        first | refine gl_v rfl (o_field rfl rfl) ?_ | refine gl_v rfl (o_fieldA rfl rfl) ?_
        first | refine gl_v rfl (o_fldS rfl) ?_ | refine gl_v rfl (o_fld rfl) ?_
        first | refine gl_u (o_store rfl rfl rfl rfl) ?_ | refine gl_u (o_storeS rfl rfl rfl (by first | assumption | omega | simp)) ?_
        refine gl_nil ?_
        refine ge_block ?_
        refine ge_block ?_
        refine ge_then ?_
        refine g_region ?_
        refine gl_v rfl (o_move rfl) ?_
        refine gl_v rfl (o_addR ((q + 1 : Nat) : Int) (by rw [wr_i64 (by omega)]; omega) rfl rfl) ?_
        refine gl_v rfl (o_assign rfl) ?_
        refine gl_nil ?_
        refine ge_round (q + 1, { e with delay := ((oneT 2 τ).n : Int) }, oneS 2 τ) ⟨show q + 1 ≤ ps.length by omega, by rw [← hP]; exact rp_parts hch (rp_part_d e τ), (sv_one 2 τ).trans hτ, ⟨hok.ref, hok.slot, hok.name⟩⟩ (by show ps.length - (q + 1) < ps.length - q; omega) (Keep.cons rfl (Keep.cons rfl (Keep.cons rfl (Keep.cons rfl (Keep.cons rfl (Keep.nil)))))) (tO)
       ·
        replace hc7 := hs_ hc7
        refine g_seq ?_
        refine g_region ?_
        refine gl_v rfl (o_eql rfl rfl) ?_
        refine gl_v rfl (o_assign rfl) ?_
        refine gl_nil ?_
        refine ge_then ?_
        refine g_cond rfl (fun hc8 => ?_) (fun hc8 => ?_)
        ·
         replace hc8 := hs_ hc8
         obtain rfl : ch = 118 := ch_of 118 (by show ch.toNat = 118; omega)
         refine g_seq ?_
         refine g_region ?_
         refine gl_v rfl (o_move rfl) ?_
         refine gl_c rfl (o_call rfl (word_spec p la lc L hL (τ) (wLess) (hτ)) pA) ?_
         rintro _ R ⟨_, ⟨rfl, rfl⟩, rfl⟩
         try simp only [List.cons_append, List.nil_append]
         refine gl_nil ?_
         refine ge_then ?_
         refine g_cond rfl (fun hc9 => ?_) (fun hc9 => ?_)
         ·
          replace hc9 := hs_ hc9
          have hl1 : wordB wLess τ = true := by simpa using hc9
          rw [wordS_T hl1]
          refine g_region ?_
          first | refine gl_v rfl (o_fldS rfl) ?_ | refine gl_v rfl (o_fld rfl) ?_
          first | refine gl_u (o_store rfl rfl rfl rfl) ?_ | refine gl_u (o_storeS rfl rfl rfl (by first | assumption | omega | simp)) ?_
          refine gl_nil ?_
          refine ge_block ?_
          refine ge_block ?_
          refine ge_then ?_
          refine g_region ?_
          refine gl_v rfl (o_move rfl) ?_
          refine gl_v rfl (o_addR ((q + 1 : Nat) : Int) (by rw [wr_i64 (by omega)]; omega) rfl rfl) ?_
          refine gl_v rfl (o_assign rfl) ?_
          refine gl_nil ?_
          refine ge_round (q + 1, { e with value := 1 }, (τ.1.tail, τ.2)) ⟨show q + 1 ≤ ps.length by omega, by rw [← hP]; exact rp_parts hch (rp_part_less hl1), (Suf.tail _).trans hτ, ⟨hok.ref, hok.slot, hok.name⟩⟩ (by show ps.length - (q + 1) < ps.length - q; omega) (Keep.cons rfl (Keep.cons rfl (Keep.cons rfl (Keep.cons rfl (Keep.cons rfl (Keep.nil)))))) (tO)
         ·
          replace hc9 := hs_ hc9
          have hl1 : wordB wLess τ = false := by simpa using hc9
          rw [wordS_F hl1]
          refine g_seq ?_
          refine g_region ?_
          refine gl_v rfl (o_move rfl) ?_
          refine gl_c rfl (o_call rfl (word_spec p la lc L hL (τ) (wKeep) (hτ)) pA) ?_
          rintro _ R ⟨_, ⟨rfl, rfl⟩, rfl⟩
          try simp only [List.cons_append, List.nil_append]
          refine gl_v rfl (o_not rfl) ?_
          refine gl_nil ?_
          refine ge_then ?_
          refine g_cond rfl (fun hc10 => ?_) (fun hc10 => ?_)
          ·
           replace hc10 := hs_ hc10
           have hk1 : wordB wKeep τ = false := by simpa using hc10
           rw [wordS_F hk1]
           refine g_seq ?_
           refine g_region ?_
           first | refine gl_v rfl (o_fldS rfl) ?_ | refine gl_v rfl (o_fld rfl) ?_
           first | refine gl_u (o_store rfl rfl rfl rfl) ?_ | refine gl_u (o_storeS rfl rfl rfl (by first | assumption | omega | simp)) ?_
           refine gl_nil ?_
           refine ge_then ?_
           refine g_region ?_
           refine gl_v rfl (o_move rfl) ?_
           refine gl_c rfl (o_call rfl (one_spec p la lc L hL 2 (τ) (hτ)) pA) ?_
           rintro _ R ⟨_, ⟨rfl, rfl⟩, rfl⟩
           try simp only [List.cons_append, List.nil_append]
           first | refine gl_v rfl (o_field rfl rfl) ?_ | refine gl_v rfl (o_fieldA rfl rfl) ?_
           first | refine gl_v rfl (o_fldS rfl) ?_ | refine gl_v rfl (o_fld rfl) ?_
           first | refine gl_u (o_store rfl rfl rfl rfl) ?_ | refine gl_u (o_storeS rfl rfl rfl (by first | assumption | omega | simp)) ?_
           refine gl_nil ?_
           refine ge_block ?_
           refine ge_block ?_
           refine ge_then ?_
           refine g_region ?_
           refine gl_v rfl (o_move rfl) ?_
           refine gl_v rfl (o_addR ((q + 1 : Nat) : Int) (by rw [wr_i64 (by omega)]; omega) rfl rfl) ?_
           refine gl_v rfl (o_assign rfl) ?_
           refine gl_nil ?_
           refine ge_round (q + 1, { e with value := 2, n := ((oneT 2 τ).n : Int) }, oneS 2 τ) ⟨show q + 1 ≤ ps.length by omega, by rw [← hP]; exact rp_parts hch (rp_part_n2 hl1 hk1), (sv_one 2 τ).trans hτ, ⟨hok.ref, hok.slot, hok.name⟩⟩ (by show ps.length - (q + 1) < ps.length - q; omega) (Keep.cons rfl (Keep.cons rfl (Keep.cons rfl (Keep.cons rfl (Keep.cons rfl (Keep.nil)))))) (tO)
          ·
           replace hc10 := hs_ hc10
           have hk1 : wordB wKeep τ = true := by simpa using hc10
           rw [wordS_T hk1]
           refine g_skip ?_
           refine ge_block ?_
           refine ge_block ?_
           refine ge_then ?_
           refine g_region ?_
           refine gl_v rfl (o_move rfl) ?_
           refine gl_v rfl (o_addR ((q + 1 : Nat) : Int) (by rw [wr_i64 (by omega)]; omega) rfl rfl) ?_
           refine gl_v rfl (o_assign rfl) ?_
           refine gl_nil ?_
           refine ge_round (q + 1, e, (τ.1.tail, τ.2)) ⟨show q + 1 ≤ ps.length by omega, by rw [← hP]; exact rp_parts hch (rp_part_keep hk1), (Suf.tail _).trans hτ, hok⟩ (by show ps.length - (q + 1) < ps.length - q; omega) (Keep.cons rfl (Keep.cons rfl (Keep.cons rfl (Keep.cons rfl (Keep.cons rfl (Keep.nil)))))) (tO)
        ·
         replace hc8 := hs_ hc8
         refine g_skip ?_
         refine ge_block ?_
         refine ge_block ?_
         refine ge_then ?_
         refine g_region ?_
         refine gl_v rfl (o_move rfl) ?_
         refine gl_v rfl (o_addR ((q + 1 : Nat) : Int) (by rw [wr_i64 (by omega)]; omega) rfl rfl) ?_
         refine gl_v rfl (o_assign rfl) ?_
         refine gl_nil ?_
         refine ge_round (q + 1, e, τ) ⟨show q + 1 ≤ ps.length by omega, by rw [← hP]; exact rp_parts0 hch (by omega) (by omega) (by omega) (by omega) (by omega), hτ, hok⟩ (by show ps.length - (q + 1) < ps.length - q; omega) (Keep.cons rfl (Keep.cons rfl (Keep.cons rfl (Keep.cons rfl (Keep.cons rfl (Keep.nil)))))) (tO)
   ·
    replace hc3 := hs_ hc3
    obtain rfl : q = ps.length := by omega
    refine g_exit ?_
    refine ge_then_exit ?_
    refine ge_then_exit ?_
    refine ge_block_exit ?_
    refine ge_then ?_
    refine g_seq ?_
    refine g_region ?_
    first | refine gl_v rfl (o_loadSA rfl rfl rfl) ?_ | refine gl_v rfl (o_loadA rfl rfl rfl) ?_
    first | refine gl_u (o_storeSA rfl rfl rfl rfl (by simp; omega) (by simp)) ?_ | refine gl_u (o_storeA rfl rfl rfl rfl rfl) ?_
    refine gl_nil ?_
    refine ge_then ?_
    refine g_ret ?_
    refine ge_block_ret ?_
    refine ge_then_ret ?_
    refine ge_then_ret ?_
    refine ge_block_ret ?_
    refine ge_then_ret ?_
    refine ret1c (.inl rfl) rfl rfl rfl rfl [txt p la lc L (τ), tksA la lc L] (⟨e, τ, rfl, rfl, by rw [← hP]; exact rp_last, hok⟩) (tO)
 ·
  replace hc1 := hs_ hc1
  obtain rfl : i = 12 := by omega
  refine g_exit ?_
  refine ge_then_exit ?_
  refine ge_then_exit ?_
  refine ge_block_exit ?_
  refine ge_then ?_
  refine g_seq ?_
  refine g_region ?_
  refine gl_v rfl (o_move rfl) ?_
  refine gl_v rfl (o_nil rfl) ?_
  first | refine gl_v rfl (o_fldS rfl) ?_ | refine gl_v rfl (o_fld rfl) ?_
  first | refine gl_u (o_store rfl rfl rfl rfl) ?_ | refine gl_u (o_storeS rfl rfl rfl (by first | assumption | omega | simp)) ?_
  refine gl_nil ?_
  refine ge_then ?_
  refine g_seq ?_
  refine g_region ?_
  refine gl_v rfl (o_build rfl rfl) ?_
  first | refine gl_u (o_storeSA rfl rfl rfl rfl (by simp; omega) (by simp)) ?_ | refine gl_u (o_storeA rfl rfl rfl rfl rfl) ?_
  refine gl_nil ?_
  refine ge_then ?_
  refine g_ret ?_
  refine ret1c (.inl rfl) rfl rfl rfl rfl [txt p la lc L (σ.1, true), tksA la lc L] (⟨e0, (σ.1, true), rfl, rfl, by rw [← hE]; exact rp_verbs, e0_ok 0⟩) (tO)

set_option maxRecDepth 8000 in
set_option maxHeartbeats 1500000 in
theorem rowR_spec (p : Nat) (la : Option Addr) (lc : Nat) (L : List Tk) (hL : L.length ≤ 16384) (hTB : TB L) (σ : Sg) (hs : Suf σ.1 L) : FnS Tryz.prog 60 [ptr p 0] [txt p la lc L (σ), tksA la lc L] (fun u Bs => ∃ w τ, u = .agg (rowC w).toArray ∧ Bs = [rowA w, txt p la lc L (τ), tksA la lc L] ∧ outP τ (Row.strip w) = runP rowP σ) := by
 refine fn_body Tryz.func60 rfl rfl rfl ?_
 intro W0 R
 simp only [List.zipIdx_cons, List.zipIdx_nil, List.map_cons, List.map_nil, Nat.zero_add, Nat.reduceAdd, List.cons_append, List.nil_append]
 refine g_seq ?_
 refine g_region ?_
 refine gl_n rfl (o_alloc) ?_
 rintro _ _ ⟨b2, rfl, rfl⟩
 refine gl_nil ?_
 refine ge_then ?_
 refine g_seq ?_
 refine g_region ?_
 refine gl_v rfl (o_build rfl rfl) ?_
 refine gl_n rfl (o_alloc) ?_
 rintro _ _ ⟨b3, rfl, rfl⟩
 first | refine gl_u (o_storeSA rfl rfl rfl rfl (by simp; omega) (by simp)) ?_ | refine gl_u (o_storeA rfl rfl rfl rfl rfl) ?_
 refine gl_nil ?_
 refine ge_then ?_
 refine g_cut (fun act wo => ∃ (tag : By) (only : Bool) (nn : Int) (τ : Sg), runP (rowX (⟨tag, only, nn, none, 0, []⟩ : Row)) τ = runP rowP σ ∧ Suf τ.1 L ∧ ok63 tag.length ∧ HasSl Tryz.f60.ntmps [(3, ptr b3 0), (2, ptr b2 0), (0, ptr p 0)] act ∧ St W0 (cel b3 57 [S tag, .bool only, I64 nn, .slice none 0 0] :: cel b2 57 (rowC r0) :: txt p la lc L (τ) :: tksA la lc L :: R) wo) ?_ ?_
 ·
  refine g_seq ?_
  refine g_region ?_
  refine gl_v rfl (o_move rfl) ?_
  refine gl_c rfl (o_call rfl (word_spec p la lc L hL (σ) (wAny) (hs)) pA) ?_
  rintro _ R ⟨_, ⟨rfl, rfl⟩, rfl⟩
  try simp only [List.cons_append, List.nil_append]
  refine gl_v rfl (o_not rfl) ?_
  refine gl_nil ?_
  refine ge_then ?_
  refine g_cond rfl (fun hc1 => ?_) (fun hc1 => ?_)
  ·
   replace hc1 := hs_ hc1
   have hw : wordB wAny σ = false := by simpa using hc1
   rw [wordS_F hw]
   refine g_seq ?_
   refine g_region ?_
   refine gl_v rfl (o_move rfl) ?_
   refine gl_c rfl (o_call rfl (mustR_spec p la lc L hL (σ) (wOn) (hs)) pA) ?_
   rintro _ R ⟨_, ⟨rfl, rfl⟩, rfl⟩
   try simp only [List.cons_append, List.nil_append]
   refine gl_nil ?_
   refine ge_then ?_
   refine g_seq ?_
   refine g_region ?_
   refine gl_v rfl (o_move rfl) ?_
   refine gl_c rfl (o_call rfl (one_spec p la lc L hL 1 (mustS wOn σ) ((sv_must wOn σ).trans hs)) pA) ?_
   rintro _ R ⟨_, ⟨rfl, rfl⟩, rfl⟩
   try simp only [List.cons_append, List.nil_append]
   first | refine gl_v rfl (o_field rfl rfl) ?_ | refine gl_v rfl (o_fieldA rfl rfl) ?_
   first | refine gl_v rfl (o_fldS rfl) ?_ | refine gl_v rfl (o_fld rfl) ?_
   first | refine gl_u (o_store rfl rfl rfl rfl) ?_ | refine gl_u (o_storeS rfl rfl rfl (by first | assumption | omega | simp)) ?_
   refine gl_nil ?_
   refine ge_then ?_
   refine g_seq ?_
   obtain ⟨σ2, h2⟩ : ∃ x, oneS 1 (mustS wOn σ) = x := ⟨_, rfl⟩
   have hon : runP (rowN (oneT 1 (mustS wOn σ)).text) σ2 = runP rowP σ := h2 ▸ rp_on hw
   have hs2 : Suf σ2.1 L := h2 ▸ (sv_one 1 _).trans ((sv_must wOn σ).trans hs)
   have htg : ok63 (oneT 1 (mustS wOn σ)).text.length := one_ok hTB 1 ((sv_must wOn σ).trans hs)
   rw [h2]
   clear h2
   rcases sg_cases σ2 with ⟨T, rfl⟩ | rfl | ⟨t, T, rfl⟩
   ·
    refine g_draw [] [] [(0, .loc), (1, .loc), (2, .loc), (3, .loc), (4, .loc), (5, .loc), (6, .loc), (7, .loc), (8, .loc), (9, .loc), (10, .loc), (11, .loc), (12, .loc), (13, .loc), (14, .loc), (15, .loc), (16, .loc), (17, .loc), (18, .loc), (19, .loc), (20, .loc), (21, .loc), (22, .loc), (23, .loc), (24, .loc), (25, .loc), (26, .loc), (27, .loc), (28, .loc), (29, .loc), (30, .loc)] [txt p la lc L (T, true), tksA la lc L] mixed (by kernel_rfl) ?_
    refine go_v rfl .none rfl (o_move rfl) ?_
    refine go_v rfl .none rfl (o_nil rfl) ?_
    first | refine go_v rfl .none rfl (o_fldS rfl) ?_ | refine go_v rfl .none rfl (o_fld rfl) ?_
    refine go_v rfl .none rfl (o_is (c := true) (by rfl) (o_load rfl rfl)) ?_
    refine go_v rfl .none rfl (o_is (c := false) (by rfl) (o_not rfl)) ?_
    refine go_v rfl .none rfl (o_move rfl) ?_
    refine go_skip rfl (.no rfl rfl rfl) rfl ?_
    refine go_skip rfl (.no rfl rfl rfl) rfl ?_
    refine go_skip rfl (.no rfl rfl rfl) rfl ?_
    refine go_skip rfl (.no rfl rfl rfl) rfl ?_
    refine go_skip rfl (.no rfl rfl rfl) rfl ?_
    refine go_skip rfl (.no rfl rfl rfl) rfl ?_
    refine go_skip rfl (.no rfl rfl rfl) rfl ?_
    refine go_skip rfl (.no rfl rfl rfl) rfl ?_
    refine go_skip rfl (.no rfl rfl rfl) rfl ?_
    refine go_skip rfl (.no rfl rfl rfl) rfl ?_
    refine go_v rfl .none rfl (o_pickF rfl rfl rfl) ?_
    refine go_v rfl .none rfl (o_move rfl) ?_
    refine go_skip rfl (.no rfl rfl rfl) rfl ?_
    refine go_skip rfl (.no rfl rfl rfl) rfl ?_
    refine go_skip rfl (.no rfl rfl rfl) rfl ?_
    refine go_skip rfl (.no rfl rfl rfl) rfl ?_
    refine go_skip rfl (.no rfl rfl rfl) rfl ?_
    refine go_skip rfl (.no rfl rfl rfl) rfl ?_
    refine go_skip rfl (.no rfl rfl rfl) rfl ?_
    refine go_skip rfl (.no rfl rfl rfl) rfl ?_
    refine go_skip rfl (.no rfl rfl rfl) rfl ?_
    refine go_skip rfl (.no rfl rfl rfl) rfl ?_
    refine go_skip rfl (.no rfl rfl rfl) rfl ?_
    refine go_skip rfl (.no rfl rfl rfl) rfl ?_
    refine go_v rfl .none rfl (o_pickF rfl rfl rfl) ?_
    refine go_nil ?_
    refine ge_then ?_
    refine g_cond_false rfl ?_
    refine g_skip ?_
    exact fun act wo hsl st => ⟨(oneT 1 (mustS wOn σ)).text, false, 0, (T, true), (rp_rn0 rfl).trans hon, hs2, htg, hsl.keep (Keep.cons rfl (Keep.cons rfl (Keep.cons rfl (Keep.nil)))), st.imp (tO)⟩
   ·
    refine g_draw [] [] [(0, .loc), (1, .loc), (2, .loc), (3, .loc), (4, .loc), (5, .loc), (6, .loc), (7, .loc), (8, .loc), (9, .loc), (10, .loc), (11, .loc), (12, .loc), (13, .loc), (14, .loc), (15, .loc), (16, .loc), (17, .loc), (18, .loc), (19, .loc), (20, .loc), (21, .loc), (22, .loc), (23, .loc), (24, .loc), (25, .loc), (26, .loc), (27, .loc), (28, .loc), (29, .loc), (30, .loc)] [txt p la lc L ([], false), tksA la lc L] mixed (by kernel_rfl) ?_
    refine go_v rfl .none rfl (o_move rfl) ?_
    refine go_v rfl .none rfl (o_nil rfl) ?_
    first | refine go_v rfl .none rfl (o_fldS rfl) ?_ | refine go_v rfl .none rfl (o_fld rfl) ?_
    refine go_v rfl .none rfl (o_is (c := false) (by rfl) (o_load rfl rfl)) ?_
    refine go_v rfl .none rfl (o_is (c := true) (by rfl) (o_not rfl)) ?_
    refine go_v rfl .none rfl (o_move rfl) ?_
    refine go_v rfl (.yes rfl rfl rfl) rfl (o_move rfl) ?_
    refine go_v rfl (.yes rfl rfl rfl) rfl (o_nil rfl) ?_
    first | refine go_v rfl (.yes rfl rfl rfl) rfl (o_fldS rfl) ?_ | refine go_v rfl (.yes rfl rfl rfl) rfl (o_fld rfl) ?_
    first | refine go_v rfl (.yes rfl rfl rfl) rfl (o_load rfl rfl) ?_ | refine go_v rfl (.yes rfl rfl rfl) rfl (o_loadS rfl rfl) ?_ | refine go_v rfl (.yes rfl rfl rfl) rfl (o_loadC rfl) ?_
    refine go_v rfl (.yes rfl rfl rfl) rfl (o_move rfl) ?_
    refine go_v rfl (.yes rfl rfl rfl) rfl (o_nil rfl) ?_
    first | refine go_v rfl (.yes rfl rfl rfl) rfl (o_fldS rfl) ?_ | refine go_v rfl (.yes rfl rfl rfl) rfl (o_fld rfl) ?_
    first | refine go_v rfl (.yes rfl rfl rfl) rfl (o_load rfl rfl) ?_ | refine go_v rfl (.yes rfl rfl rfl) rfl (o_loadS rfl rfl) ?_ | refine go_v rfl (.yes rfl rfl rfl) rfl (o_loadC rfl) ?_
    first | refine go_v rfl (.yes rfl rfl rfl) rfl (o_len rfl) ?_ | refine go_v rfl (.yes rfl rfl rfl) rfl (o_lenL rfl) ?_
    refine go_v rfl (.yes rfl rfl rfl) rfl (o_is (c := false) (by exact decide_eq_false (by simp only [List.length_nil]; omega)) (o_lss rfl rfl)) ?_
    refine go_v rfl .none rfl (o_pickT rfl rfl rfl) ?_
    refine go_v rfl .none rfl (o_move rfl) ?_
    refine go_skip rfl (.no rfl rfl rfl) rfl ?_
    refine go_skip rfl (.no rfl rfl rfl) rfl ?_
    refine go_skip rfl (.no rfl rfl rfl) rfl ?_
    refine go_skip rfl (.no rfl rfl rfl) rfl ?_
    refine go_skip rfl (.no rfl rfl rfl) rfl ?_
    refine go_skip rfl (.no rfl rfl rfl) rfl ?_
    refine go_skip rfl (.no rfl rfl rfl) rfl ?_
    refine go_skip rfl (.no rfl rfl rfl) rfl ?_
    refine go_skip rfl (.no rfl rfl rfl) rfl ?_
    refine go_skip rfl (.no rfl rfl rfl) rfl ?_
    refine go_skip rfl (.no rfl rfl rfl) rfl ?_
    refine go_skip rfl (.no rfl rfl rfl) rfl ?_
    refine go_v rfl .none rfl (o_pickF rfl rfl rfl) ?_
    refine go_nil ?_
    refine ge_then ?_
    refine g_cond_false rfl ?_
    refine g_skip ?_
    exact fun act wo hsl st => ⟨(oneT 1 (mustS wOn σ)).text, false, 0, ([], false), (rp_rn0 rfl).trans hon, hs2, htg, hsl.keep (Keep.cons rfl (Keep.cons rfl (Keep.cons rfl (Keep.nil)))), st.imp (tO)⟩
   ·
    replace hs2 : Suf (t :: T) L := hs2
    have hl1 := hs2.1
    have hlc : (t :: T).length = T.length + 1 := rfl
    have hi : L.length - (t :: T).length < L.length := by omega
    have hat := at_cons hs2
    refine g_draw [] [] [(0, .loc), (1, .loc), (2, .loc), (3, .loc), (4, .loc), (5, .loc), (6, .loc), (7, .loc), (8, .loc), (9, .loc), (10, .loc), (11, .loc), (12, .loc), (13, .loc), (14, .loc), (15, .loc), (16, .loc), (17, .loc), (18, .loc), (19, .loc), (20, .loc), (21, .loc), (22, .loc), (23, .loc), (24, .loc), (25, .loc), (26, .loc), (27, .loc), (28, .loc), (29, .loc), (30, .loc)] [txt p la lc L (t :: T, false), tksA la lc L] mixed (by kernel_rfl) ?_
    refine go_v rfl .none rfl (o_move rfl) ?_
    refine go_v rfl .none rfl (o_nil rfl) ?_
    first | refine go_v rfl .none rfl (o_fldS rfl) ?_ | refine go_v rfl .none rfl (o_fld rfl) ?_
    refine go_v rfl .none rfl (o_is (c := false) (by rfl) (o_load rfl rfl)) ?_
    refine go_v rfl .none rfl (o_is (c := true) (by rfl) (o_not rfl)) ?_
    refine go_v rfl .none rfl (o_move rfl) ?_
    refine go_v rfl (.yes rfl rfl rfl) rfl (o_move rfl) ?_
    refine go_v rfl (.yes rfl rfl rfl) rfl (o_nil rfl) ?_
    first | refine go_v rfl (.yes rfl rfl rfl) rfl (o_fldS rfl) ?_ | refine go_v rfl (.yes rfl rfl rfl) rfl (o_fld rfl) ?_
    first | refine go_v rfl (.yes rfl rfl rfl) rfl (o_load rfl rfl) ?_ | refine go_v rfl (.yes rfl rfl rfl) rfl (o_loadS rfl rfl) ?_ | refine go_v rfl (.yes rfl rfl rfl) rfl (o_loadC rfl) ?_
    refine go_v rfl (.yes rfl rfl rfl) rfl (o_move rfl) ?_
    refine go_v rfl (.yes rfl rfl rfl) rfl (o_nil rfl) ?_
    first | refine go_v rfl (.yes rfl rfl rfl) rfl (o_fldS rfl) ?_ | refine go_v rfl (.yes rfl rfl rfl) rfl (o_fld rfl) ?_
    first | refine go_v rfl (.yes rfl rfl rfl) rfl (o_load rfl rfl) ?_ | refine go_v rfl (.yes rfl rfl rfl) rfl (o_loadS rfl rfl) ?_ | refine go_v rfl (.yes rfl rfl rfl) rfl (o_loadC rfl) ?_
    first | refine go_v rfl (.yes rfl rfl rfl) rfl (o_len rfl) ?_ | refine go_v rfl (.yes rfl rfl rfl) rfl (o_lenL rfl) ?_
    refine go_v rfl (.yes rfl rfl rfl) rfl (o_is (c := true) (by exact decide_eq_true (by (try dsimp only); omega)) (o_lss rfl rfl)) ?_
    refine go_v rfl .none rfl (o_pickT rfl rfl rfl) ?_
    refine go_v rfl .none rfl (o_move rfl) ?_
    refine go_v rfl (.yes rfl rfl rfl) rfl (o_move rfl) ?_
    refine go_v rfl (.yes rfl rfl rfl) rfl (o_nil rfl) ?_
    first | refine go_v rfl (.yes rfl rfl rfl) rfl (o_fldS rfl) ?_ | refine go_v rfl (.yes rfl rfl rfl) rfl (o_fld rfl) ?_
    first | refine go_v rfl (.yes rfl rfl rfl) rfl (o_load rfl rfl) ?_ | refine go_v rfl (.yes rfl rfl rfl) rfl (o_loadS rfl rfl) ?_ | refine go_v rfl (.yes rfl rfl rfl) rfl (o_loadC rfl) ?_
    refine go_v rfl (.yes rfl rfl rfl) rfl (o_move rfl) ?_
    refine go_v rfl (.yes rfl rfl rfl) rfl (o_nil rfl) ?_
    first | refine go_v rfl (.yes rfl rfl rfl) rfl (o_fldS rfl) ?_ | refine go_v rfl (.yes rfl rfl rfl) rfl (o_fld rfl) ?_
    first | refine go_v rfl (.yes rfl rfl rfl) rfl (o_load rfl rfl) ?_ | refine go_v rfl (.yes rfl rfl rfl) rfl (o_loadS rfl rfl) ?_ | refine go_v rfl (.yes rfl rfl rfl) rfl (o_loadC rfl) ?_
    refine go_v rfl (.yes rfl rfl rfl) rfl (o_idxS rfl rfl hi) ?_
    first | refine go_v rfl (.yes rfl rfl rfl) rfl (o_fldS rfl) ?_ | refine go_v rfl (.yes rfl rfl rfl) rfl (o_fld rfl) ?_
    refine go_v rfl (.yes rfl rfl rfl) rfl (o_loadS rfl (flat_get tkC 4 tkC_len hat (show (tkC t)[0]? = some _ from rfl))) ?_
    refine go_v rfl (.yes rfl rfl rfl) rfl (o_eql rfl rfl) ?_
    refine go_v rfl .none rfl (o_pickT rfl rfl rfl) ?_
    refine go_nil ?_
    refine ge_then ?_
    refine g_cond rfl (fun hc2 => ?_) (fun hc2 => ?_)
    ·
     replace hc2 := hs_ hc2
     refine g_seq ?_
     refine g_region ?_
     first | refine gl_v rfl (o_fldS rfl) ?_ | refine gl_v rfl (o_fld rfl) ?_
     first | refine gl_u (o_store rfl rfl rfl rfl) ?_ | refine gl_u (o_storeS rfl rfl rfl (by first | assumption | omega | simp)) ?_
     refine gl_nil ?_
     refine ge_then ?_
     refine g_region ?_
     refine gl_v rfl (o_move rfl) ?_
     refine gl_c rfl (o_call rfl (one_spec p la lc L hL 2 (t :: T, false) hs2) pA) ?_
     rintro _ R ⟨_, ⟨rfl, rfl⟩, rfl⟩
     try simp only [List.cons_append, List.nil_append]
     first | refine gl_v rfl (o_field rfl rfl) ?_ | refine gl_v rfl (o_fieldA rfl rfl) ?_
     first | refine gl_v rfl (o_fldS rfl) ?_ | refine gl_v rfl (o_fld rfl) ?_
     first | refine gl_u (o_store rfl rfl rfl rfl) ?_ | refine gl_u (o_storeS rfl rfl rfl (by first | assumption | omega | simp)) ?_
     refine gl_nil ?_
     exact fun act wo hsl st => ⟨(oneT 1 (mustS wOn σ)).text, true, ((oneT 2 (t :: T, false)).n : Int), oneS 2 (t :: T, false), (rp_rn1 (by rw [oneB_cons]; exact decide_eq_true (by omega))).trans hon, (sv_one 2 _).trans hs2, htg, hsl.keep (Keep.cons rfl (Keep.cons rfl (Keep.cons rfl (Keep.nil)))), st.imp (tO)⟩
    ·
     replace hc2 := hs_ hc2
     refine g_skip ?_
     exact fun act wo hsl st => ⟨(oneT 1 (mustS wOn σ)).text, false, 0, (t :: T, false), (rp_rn0 (by rw [oneB_cons]; exact decide_eq_false (by omega))).trans hon, hs2, htg, hsl.keep (Keep.cons rfl (Keep.cons rfl (Keep.cons rfl (Keep.nil)))), st.imp (tO)⟩
  ·
   replace hc1 := hs_ hc1
   have hw : wordB wAny σ = true := by simpa using hc1
   rw [wordS_T hw]
   refine g_skip ?_
   exact fun act wo hsl st => ⟨[], false, 0, (σ.1.tail, σ.2), rp_any hw, (Suf.tail _).trans hs, (by show 0 ≤ 140737488351232; decide), hsl.keep (Keep.cons rfl (Keep.cons rfl (Keep.cons rfl (Keep.nil)))), st.imp (tO)⟩
 ·
  rintro act wo ⟨tag, only, nn, τ, hrow, hτ, htag, hsl, st⟩
  refine g_of ?_ hsl st
  clear hsl st act wo
  refine g_seq ?_
  refine g_region ?_
  refine gl_v rfl (o_move rfl) ?_
  refine gl_c rfl (o_call rfl (mustR_spec p la lc L hL (τ) (wOpen) (hτ)) pA) ?_
  rintro _ R ⟨_, ⟨rfl, rfl⟩, rfl⟩
  try simp only [List.cons_append, List.nil_append]
  refine gl_nil ?_
  refine ge_then ?_
  refine g_seq ?_
  refine g_block ?_
  refine g_loop (ι := List Eff × Sg × Option Addr × Nat) (fun x => (∃ f, (x.2.1.2 = false → x.2.1.1.length < f) ∧ runP (effsP f x.1) x.2.1 = runP (fun T => effsP (T.length + 1) [] T) (mustS wOpen τ)) ∧ x.1.length + x.2.1.1.length ≤ 16384 + (if x.2.1.2 then 1 else 0) ∧ Suf x.2.1.1 L ∧ ∀ e ∈ x.1, EffOk e) (fun x => [(3, ptr b3 0), (2, ptr b2 0), (0, ptr p 0)]) (fun x => own (.slice x.2.2.1 x.1.length x.2.2.2) 59 7 x.1.length (x.1.flatMap effC) :: cel b3 57 [S tag, .bool only, I64 nn, .slice x.2.2.1 x.1.length x.2.2.2] :: cel b2 57 (rowC r0) :: txt p la lc L (x.2.1) :: tksA la lc L :: R) (fun x => mS x.2.1) ([], mustS wOpen τ, none, 0) (⟨⟨_, fun _ => Nat.lt_succ_self _, rfl⟩, by have := ((sv_must wOpen τ).trans hτ).1; show 0 + (mustS wOpen τ).1.length ≤ _; omega, (sv_must wOpen τ).trans hτ, fun e he => by cases he⟩) (Keep.cons rfl (Keep.cons rfl (Keep.cons rfl (Keep.nil)))) (fun h s => (tO) h (own_nil0 (e := 59) (sz := 7) h s)) ?_
  rintro ⟨es, ρ, ea, ec⟩ ⟨⟨f, hf, hE⟩, hlen, hρ, heo⟩
  replace hf : ρ.2 = false → ρ.1.length < f := hf
  replace hE : runP (effsP f es) ρ = runP (fun T => effsP (T.length + 1) [] T) (mustS wOpen τ) := hE
  replace hlen : es.length + ρ.1.length ≤ 16384 + (if ρ.2 then 1 else 0) := hlen
  replace hρ : Suf ρ.1 L := hρ
  replace heo : ∀ e ∈ es, EffOk e := heo
  have hesl : es.length ≤ 16385 := by have := sb_le ρ.2; omega
  dsimp only
  refine g_seq ?_
  refine g_seq ?_
  obtain ⟨TT, rb⟩ := ρ
  cases rb
  ·
   refine g_region ?_
   refine gl_v rfl (o_move rfl) ?_
   refine gl_v rfl (o_nil rfl) ?_
   first | refine gl_v rfl (o_fldS rfl) ?_ | refine gl_v rfl (o_fld rfl) ?_
   refine gl_v rfl (o_is (c := false) (by rfl) (o_load rfl rfl)) ?_
   refine gl_v rfl (o_is (c := true) (by rfl) (o_not rfl)) ?_
   refine gl_v rfl (o_move rfl) ?_
   refine gl_gT rfl rfl rfl ?_
   refine gl_v rfl (o_move rfl) ?_
   refine gl_gT rfl rfl rfl ?_
   refine gl_c rfl (o_call rfl (word_spec p la lc L hL ((TT, false)) (wShut) (hρ)) pA) ?_
   rintro _ R ⟨_, ⟨rfl, rfl⟩, rfl⟩
   try simp only [List.cons_append, List.nil_append]
   refine gl_gT rfl rfl rfl ?_
   refine gl_v rfl (o_not rfl) ?_
   refine gl_v rfl (o_pickT rfl rfl rfl) ?_
   refine gl_nil ?_
   refine ge_then ?_
   refine g_cond rfl (fun hc3 => ?_) (fun hc3 => ?_)
   ·
    replace hc3 := hs_ hc3
    have hw : wordB (wShut) ((TT, false)) = false := by simpa using hc3
    rw [wordS_F hw]
    refine g_skip ?_
    refine ge_then ?_
    refine g_block ?_
    refine g_seq ?_
    refine g_draw [3, 4, 5, 7] [3, 4] [(0, .stab), (1, .stab), (2, .loc), (3, .eff), (4, .eff), (5, .eff), (6, .loc), (7, .eff)] [cel b3 57 [S tag, .bool only, I64 nn, .slice ea es.length ec]] mixed (by kernel_rfl) ?_
    first | refine go_vs rfl .none rfl (o_fldS rfl) (tO) ?_ | refine go_vs rfl .none rfl (o_fld rfl) (tO) ?_
    first | refine go_vs rfl .none rfl (o_load rfl rfl) (tO) ?_ | refine go_vs rfl .none rfl (o_loadS rfl rfl) (tO) ?_ | refine go_vs rfl .none rfl (o_loadC rfl) (tO) ?_
    refine go_v rfl .none rfl (o_move rfl) ?_
    refine go_c rfl .none rfl (o_call rfl (effR_spec p la lc L hL hTB (TT, false) hρ) pA) ?_
    rintro _ R ⟨_, ⟨e, ρ2, rfl, rfl, hout, heok⟩, rfl⟩
    try simp only [List.cons_append, List.nil_append]
    refine ⟨(fun _ => (tO)), ?_⟩
    first | refine go_n rfl .none rfl (o_buildS1 rfl rfl rfl) ?_ | refine go_n rfl .none rfl (o_buildS1A rfl rfl rfl rfl) ?_ | refine go_n rfl .none rfl (o_buildS rfl rfl rfl rfl) ?_
    rintro _ _ ⟨b66, rfl, rfl⟩
    refine ⟨(fun _ => (tO)), ?_⟩
    refine go_n rfl .none rfl (o_append rfl rfl pA rfl rfl rfl (by omega) (by unfold maxLen; omega)) ?_
    rintro _ _ ⟨a67, c67, rfl, rfl⟩
    rw [len_snoc es e, flat_snoc' effC es e]
    refine ⟨(fun hG => absurd hG (by decide)), ?_⟩
    first | refine go_v rfl .none rfl (o_fldS rfl) ?_ | refine go_v rfl .none rfl (o_fld rfl) ?_
    first | refine go_u rfl .none (o_store rfl rfl rfl rfl) (fun hG => absurd hG (by decide)) ?_ | refine go_u rfl .none (o_storeS rfl rfl rfl (by first | assumption | omega | simp)) (fun hG => absurd hG (by decide)) ?_
    refine go_nil ?_
    refine ge_then ?_
    refine g_region ?_
    refine gl_v rfl (o_move rfl) ?_
    refine gl_c rfl (o_call rfl (mustR_spec p la lc L hL (ρ2) (wSemi) ((sv_of lv_eff hout).trans hρ)) pA) ?_
    rintro _ R ⟨_, ⟨rfl, rfl⟩, rfl⟩
    try simp only [List.cons_append, List.nil_append]
    refine gl_nil ?_
    refine ge_block ?_
    have hf1 : TT.length < f := hf rfl
    obtain ⟨f, rfl⟩ : ∃ g, f = g + 1 := ⟨f - 1, by omega⟩
    have hq1 := lt_of' lv_eff lt_eff hout rfl
    have hq2 := sv_must wSemi ρ2
    have hq3 : ((mustS wSemi ρ2).2 = false → (mustS wSemi ρ2).1.length < TT.length) ∧ (mustS wSemi ρ2).1.length ≤ TT.length := ⟨fun h => by
      have h5 : ρ2.2 = false := by cases h6 : ρ2.2 with | false => rfl | true => rw [must_bad _ h6] at h; cases h
      exact Nat.lt_of_le_of_lt hq2.1 (hq1.1 h5), Nat.le_trans hq2.1 hq1.2⟩
    refine ge_round (es ++ [e], mustS wSemi ρ2, a67, c67) ⟨⟨f, fun h => by have := hq3.1 h; show (mustS wSemi ρ2).1.length < f; omega, by rw [← hE]; exact rp_effs rfl (wordB_no hw rfl) hout⟩, by rw [List.length_append, List.length_singleton]; exact cnt_ok (σ := (TT, false)) rfl hq3 hlen, hq2.trans ((sv_of lv_eff hout).trans hρ), snoc_all heo heok⟩ (mS_lt (σ := (TT, false)) rfl hq3) (Keep.cons rfl (Keep.cons rfl (Keep.cons rfl (Keep.nil)))) (tO)
   ·
    replace hc3 := hs_ hc3
    have hw : wordB (wShut) ((TT, false)) = true := by simpa using hc3
    rw [wordS_T hw]
    refine g_exit ?_
    refine ge_then_exit ?_
    refine ge_then_exit ?_
    refine ge_block_exit ?_
    refine ge_then ?_
    refine g_seq ?_
    refine g_region ?_
    first | refine gl_v rfl (o_loadSA rfl rfl rfl) ?_ | refine gl_v rfl (o_loadA rfl rfl rfl) ?_
    first | refine gl_u (o_storeSA rfl rfl rfl rfl (by simp; omega) (by simp)) ?_ | refine gl_u (o_storeA rfl rfl rfl rfl rfl) ?_
    refine gl_nil ?_
    refine ge_then ?_
    refine g_ret ?_
    refine ret1c (.inl rfl) rfl rfl rfl rfl [rowA ⟨tag, only, nn, ea, ec, es⟩, txt p la lc L (TT.tail, false), tksA la lc L] (⟨_, (TT.tail, false), rfl, rfl, by rw [← hrow]; exact rp_rowX (w := (⟨tag, only, nn, none, 0, []⟩ : Row)) (by rw [← hE]; have hf1 : TT.length < f := hf rfl; obtain ⟨f, rfl⟩ : ∃ g, f = g + 1 := ⟨f - 1, by omega⟩; exact rp_effs1 hw)⟩) (fun h s => mk_row2 (e := 59) htag (by omega) heo h ((tO) h s))
  ·
   refine g_region ?_
   refine gl_v rfl (o_move rfl) ?_
   refine gl_v rfl (o_nil rfl) ?_
   first | refine gl_v rfl (o_fldS rfl) ?_ | refine gl_v rfl (o_fld rfl) ?_
   refine gl_v rfl (o_is (c := true) (by rfl) (o_load rfl rfl)) ?_
   refine gl_v rfl (o_is (c := false) (by rfl) (o_not rfl)) ?_
   refine gl_v rfl (o_move rfl) ?_
   refine gl_gF rfl rfl rfl rfl ?_
   refine gl_gF rfl rfl rfl rfl ?_
   refine gl_gF rfl rfl rfl rfl ?_
   refine gl_v rfl (o_pickF rfl rfl rfl) ?_
   refine gl_nil ?_
   refine ge_then ?_
   refine g_cond_false rfl ?_
   refine g_exit ?_
   refine ge_then_exit ?_
   refine ge_then_exit ?_
   refine ge_block_exit ?_
   refine ge_then ?_
   refine g_seq ?_
   refine g_region ?_
   first | refine gl_v rfl (o_loadSA rfl rfl rfl) ?_ | refine gl_v rfl (o_loadA rfl rfl rfl) ?_
   first | refine gl_u (o_storeSA rfl rfl rfl rfl (by simp; omega) (by simp)) ?_ | refine gl_u (o_storeA rfl rfl rfl rfl rfl) ?_
   refine gl_nil ?_
   refine ge_then ?_
   refine g_ret ?_
   refine ret1c (.inl rfl) rfl rfl rfl rfl [rowA ⟨tag, only, nn, ea, ec, es⟩, txt p la lc L (TT, true), tksA la lc L] (⟨_, (TT, true), rfl, rfl, by rw [← hrow]; exact rp_rowX (w := (⟨tag, only, nn, none, 0, []⟩ : Row)) (by rw [← hE]; exact op_bad_rp rfl)⟩) (fun h s => mk_row2 (e := 59) htag (by omega) heo h ((tO) h s))

end Go.Proofs.YtgkjnilckmminaaGreatDoor.L
