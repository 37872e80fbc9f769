/-
  Script: the reference's entries. Own work, printed in part by a program of its own.
-/
import Derived.Test.YtcglaiacohkaeaaDoorScrRn
set_option linter.unusedSimpArgs false
set_option linter.unusedVariables false
set_option linter.unusedSectionVars false
namespace Go.Proofs.YtcglaiacohkaeaaDoor.L
open Go.L Go.L.Lx Go.L.Pa Go.L.Sc
theorem kind_at {k : Nat} (h : 1 ≤ k ∧ k ≤ 7) : kindE (formE k).1 = k := by
  have : ∀ k : Nat, k < 8 → 1 ≤ k → kindE (formE k).1 = k := by decide
  exact this k (by omega) h.1
theorem kind_inv (w : By) : kindE w = 0 ∨ ∃ j : Nat, (1 ≤ j ∧ j ≤ 7) ∧ kindE w = j ∧ w = (formE j).1 := by
  by_cases h : ∃ j : Nat, (1 ≤ j ∧ j ≤ 7) ∧ w = (formE j).1
  · obtain ⟨j, h1, h2⟩ := h
    exact .inr ⟨j, h1, by rw [h2, kind_at h1], h2⟩
  · have hn : ∀ j : Nat, 1 ≤ j → j ≤ 7 → ¬ w = (formE j).1 := fun j h1 h2 h3 => h ⟨j, ⟨h1, h2⟩, h3⟩
    left; unfold kindE
    rw [if_neg (show ¬ w = [119, 111, 114, 107] from hn 1 (by omega) (by omega)), if_neg (show ¬ w = [104, 97, 110, 100] from hn 2 (by omega) (by omega)), if_neg (show ¬ w = [99, 108, 111, 99, 107] from hn 3 (by omega) (by omega)), if_neg (show ¬ w = [116, 101, 108, 108] from hn 4 (by omega) (by omega)), if_neg (show ¬ w = [115, 116, 111, 112] from hn 5 (by omega) (by omega)), if_neg (show ¬ w = [116, 105, 99, 107] from hn 6 (by omega) (by omega)), if_neg (show ¬ w = [115, 104, 117, 116] from hn 7 (by omega) (by omega))]
theorem form_chars (k : Int) : ∀ c ∈ (formE k).2, c.toNat = 97 ∨ c.toNat = 98 ∨ c.toNat = 110 ∨ c.toNat = 116 := by
  by_cases h : 1 ≤ k ∧ k ≤ 7
  · obtain ⟨n, rfl⟩ : ∃ n : Nat, k = n := ⟨k.toNat, by omega⟩
    have : ∀ n : Nat, n < 8 → ∀ c ∈ (formE n).2, c.toNat = 97 ∨ c.toNat = 98 ∨ c.toNat = 110 ∨ c.toNat = 116 := by decide
    exact this n (by omega)
  · rw [form_no h]; intro c hc; cases hc
theorem readE_at {l w : By} {ws : List By} (hs : splitB 32 l = w :: ws) {k : Nat} (h : 1 ≤ k ∧ k ≤ 7) (hw : w = (formE k).1) : readE l = partsE (formE k).2 ws { ent0 with kind := k } := by
  unfold readE; rw [hs]
  show wordsE w ws = _
  unfold wordsE
  have hk : kindE w = k := by rw [hw, kind_at h]
  rw [hk, if_neg (by omega)]
theorem readE_none {l w : By} {ws : List By} (hs : splitB 32 l = w :: ws) (h : ∀ j : Nat, 1 ≤ j → j < 8 → ¬ (w = (formE j).1 ∧ ws.length = (formE j).2.length)) : readE l = none := by
  rcases kind_inv w with hk | ⟨j, hj, hk, hw⟩
  · exact readE_no hs hk
  · rw [readE_at hs hj hw]
    cases hp : partsE (formE j).2 ws { ent0 with kind := j } with
    | none => rfl
    | some e => exact absurd ⟨hw, (partsE_len hp).symm⟩ (h j hj.1 (by omega))
theorem parts_step {cs : By} {ws : List By} {i : Nat} {x : UInt8} {w : By} {e : Ent} (hx : cs[i]? = some x) (hw : ws[i]? = some w) : partsE (cs.drop i) (ws.drop i) e = (partE x w e).bind (partsE (cs.drop (i + 1)) (ws.drop (i + 1))) := by
  rw [drop_at' hx, drop_at' hw]; rfl
theorem isSome_get {o : Option Int} {n : Int} (h : o.isSome = true) (h2 : o.getD n = n) : o = some n := by
  cases o with
  | none => cases h
  | some m => exact congrArg some h2
theorem isSome_no {o : Option Int} (h : o.isSome = false) : o = none := by
  cases o with
  | none => rfl
  | some m => cases h
theorem part_tag {x : UInt8} {w : By} {e : Ent} (h : x.toNat = 116) : partE x w e = if isName w then some { e with tag := w } else none := if_pos h
theorem part_num {x : UInt8} {w : By} {e : Ent} {n : Int} (h : ¬ x.toNat = 116) (hn : numV 0 65535 w = some n) : partE x w e = some (if x.toNat = 97 then { e with a := n } else if x.toNat = 98 then { e with b := n } else { e with n := n }) := by
  unfold partE; rw [if_neg h, hn]; rfl
theorem part_nil {x : UInt8} {w : By} {e : Ent} (h : ¬ x.toNat = 116) (hn : numV 0 65535 w = none) : partE x w e = none := by
  unfold partE; rw [if_neg h, hn]; rfl

set_option maxRecDepth 8000 in
set_option maxHeartbeats 3000000 in
theorem rRead_spec (l : By) (hl : l.length ≤ 4000000000) : FnS Tryd.prog 12 [S l] [] (fun u Bs => u = (match readE l with | some e => Value.tuple #[.agg (entC e).toArray, .bool true] | none => Value.tuple #[.agg (entC ent0).toArray, .bool false]) ∧ Bs = []) := by
 refine fn_body Tryd.func12 rfl rfl rfl ?_
 intro W0 R
 simp only [List.zipIdx_cons, List.zipIdx_nil, List.map_cons, List.map_nil, Nat.zero_add, Nat.reduceAdd, List.cons_append, List.nil_append]
 obtain ⟨w0, ws, hsp⟩ := split_cons (c := 32) (l := l)
 have hwl : ∀ w ∈ w0 :: ws, w.length ≤ 4000000000 := fun w hw => by have := split_wlen (c := 32) l w (by rw [hsp]; exact hw); omega
 have hsl := split_len (c := 32) l
 rw [hsp] at hsl
 have hl1 : (w0 :: ws).length = ws.length + 1 := rfl
 refine g_seq ?_
 refine g_region ?_
 refine gl_n rfl (o_alloc) ?_
 rintro _ _ ⟨b2, rfl, rfl⟩
 refine gl_v rfl (o_assign rfl) ?_
 refine gl_nil ?_
 refine ge_then ?_
 refine g_seq ?_
 refine g_region ?_
 refine gl_v rfl (o_move rfl) ?_
 refine gl_c rfl (o_call rfl (rWords_spec l hl) pA) ?_
 rintro _ R ⟨_, ⟨a, c, rfl, rfl⟩, rfl⟩
 try simp only [List.cons_append, List.nil_append]
 rw [hsp]
 refine gl_v rfl (o_assign rfl) ?_
 refine gl_nil ?_
 refine ge_then ?_
 refine g_seq ?_
 refine g_seq ?_
 refine g_region ?_
 refine gl_v rfl (o_assign rfl) ?_
 refine gl_nil ?_
 refine ge_then ?_
 refine g_block ?_
 refine g_loop (ι := Nat) (fun k => 1 ≤ k ∧ k ≤ 8 ∧ ∀ j : Nat, 1 ≤ j → j < k → ¬ (w0 = (formE j).1 ∧ ws.length = (formE j).2.length)) (fun k => [(5, I64 k), (4, .slice a (w0 :: ws).length c), (2, ptr b2 0)]) (fun _ => own (.slice a (w0 :: ws).length c) 9 1 (w0 :: ws).length (wsC (w0 :: ws)) :: cel b2 23 (entC ent0) :: R) (fun k => 8 - k) 1 (⟨Nat.le_refl _, by omega, fun j h1 h2 => by omega⟩) (Keep.cons rfl (Keep.cons rfl (Keep.cons rfl (Keep.nil)))) (tO) ?_
 rintro k ⟨hk1, hk8, hk⟩
 replace hk1 : 1 ≤ k := hk1
 replace hk8 : k ≤ 8 := hk8
 replace hk : ∀ j : Nat, 1 ≤ j → j < k → ¬ (w0 = (formE j).1 ∧ ws.length = (formE j).2.length) := hk
 refine g_seq ?_
 refine g_seq ?_
 refine g_region ?_
 refine gl_v rfl (o_move rfl) ?_
 refine gl_v rfl (o_leq rfl rfl) ?_
 refine gl_nil ?_
 refine ge_then ?_
 refine g_cond rfl (fun hc1 => ?_) (fun hc1 => ?_)
 ·
  replace hc1 := hs_ hc1
  have hk7 : k ≤ 7 := by omega
  refine g_skip ?_
  refine ge_then ?_
  refine g_seq ?_
  refine g_block ?_
  refine g_seq ?_
  refine g_region ?_
  refine gl_v rfl (o_move rfl) ?_
  refine gl_c rfl (o_call rfl (rForm_spec k) pA) ?_
  rintro _ R ⟨_, ⟨rfl, rfl⟩, rfl⟩
  try simp only [List.cons_append, List.nil_append]
  have hfl := formE_len k
  refine gl_v rfl (o_move rfl) ?_
  refine gl_v rfl (o_extract rfl rfl) ?_
  refine gl_v rfl (o_extract rfl rfl) ?_
  refine gl_v rfl (o_assign rfl) ?_
  refine gl_v rfl (o_assign rfl) ?_
  refine gl_nil ?_
  refine ge_then ?_
  refine g_seq ?_
  refine g_seq ?_
  by_cases hverb : w0 = (formE k).1
  ·
   refine g_region ?_
   refine gl_v rfl (o_move rfl) ?_
   refine gl_v rfl (o_idxS (j := 0) rfl rfl (by simp only [List.length_cons]; omega)) ?_
   refine gl_v rfl (o_loadS rfl (show (wsC (w0 :: ws))[0 * 1]? = some (S w0) from rfl)) ?_
   refine gl_v rfl (o_move rfl) ?_
   refine gl_v rfl (o_is (c := false) (by rw [decide_eq_true hverb]; rfl) (o_neqs rfl rfl)) ?_
   refine gl_v rfl (o_move rfl) ?_
   refine gl_gT rfl rfl rfl ?_
   refine gl_v rfl (o_move rfl) ?_
   refine gl_gT rfl rfl rfl ?_
   refine gl_v rfl (o_lenL rfl) ?_
   refine gl_gT rfl rfl rfl ?_
   refine gl_v rfl (o_move rfl) ?_
   refine gl_gT rfl rfl rfl ?_
   refine gl_v rfl (o_lens rfl) ?_
   refine gl_gT rfl rfl rfl ?_
   refine gl_v rfl (o_addR (1 + ((formE k).2.length : Int)) (by rw [wr_i64 (by omega)]) rfl rfl) ?_
   refine gl_gT rfl rfl rfl ?_
   refine gl_v rfl (o_neq rfl rfl) ?_
   refine gl_v rfl (o_pickF rfl rfl rfl) ?_
   refine gl_nil ?_
   refine ge_then ?_
   refine g_cond rfl (fun hc2 => ?_) (fun hc2 => ?_)
   ·
    replace hc2 := hs_ hc2
    refine g_exit ?_
    refine ge_then_exit ?_
    refine ge_block_exit ?_
    refine ge_then ?_
    refine g_region ?_
    refine gl_v rfl (o_move rfl) ?_
    refine gl_v rfl (o_addR ((k + 1 : Nat) : Int) (by rw [wr_i64 (by omega)]; omega) rfl rfl) ?_
    refine gl_v rfl (o_assign rfl) ?_
    refine gl_nil ?_
    refine ge_round (k + 1) ⟨by show 1 ≤ k + 1; omega, by show k + 1 ≤ 8; omega, fun j h1 h2 h3 => ?_⟩ (by show 8 - (k + 1) < 8 - k; omega) (Keep.cons rfl (Keep.cons rfl (Keep.cons rfl (Keep.nil)))) (tO)
    by_cases h9 : j = k
    · rw [h9] at h3; exact absurd h3.2 (by omega)
    · exact hk j h1 (by omega) h3
   ·
    replace hc2 := hs_ hc2
    have hwsl : ws.length = (formE k).2.length := by omega
    refine g_skip ?_
    refine ge_then ?_
    refine g_seq ?_
    refine g_region ?_
    refine gl_v rfl (o_move rfl) ?_
    refine gl_v rfl (o_build rfl rfl) ?_
    refine gl_n rfl (o_alloc) ?_
    rintro _ _ ⟨b8, rfl, rfl⟩
    first | refine gl_u (o_storeSA rfl rfl rfl rfl (by simp; omega) (by simp)) ?_ | refine gl_u (o_storeA rfl rfl rfl rfl rfl) ?_
    refine gl_nil ?_
    refine ge_then ?_
    refine g_seq ?_
    refine g_seq ?_
    refine g_region ?_
    refine gl_v rfl (o_assign rfl) ?_
    refine gl_nil ?_
    refine ge_then ?_
    refine g_block ?_
    refine g_loop (ι := Nat × Ent) (fun x => x.1 ≤ (formE k).2.length ∧ partsE ((formE k).2.drop x.1) (ws.drop x.1) x.2 = readE l) (fun x => [(9, I64 x.1), (8, ptr b8 0), (7, S (formE k).2), (5, I64 k), (4, .slice a (w0 :: ws).length c), (2, ptr b2 0)]) (fun x => cel b8 23 (entC x.2) :: own (.slice a (w0 :: ws).length c) 9 1 (w0 :: ws).length (wsC (w0 :: ws)) :: cel b2 23 (entC ent0) :: R) (fun x => (formE k).2.length - x.1) (0, { ent0 with kind := k }) (⟨Nat.zero_le _, (readE_at hsp ⟨hk1, by omega⟩ hverb).symm⟩) (Keep.cons rfl (Keep.cons rfl (Keep.cons rfl (Keep.cons rfl (Keep.cons rfl (Keep.cons rfl (Keep.nil))))))) (tO) ?_
    rintro ⟨i, e⟩ ⟨hi, hI⟩
    replace hi : i ≤ (formE k).2.length := hi
    replace hI : partsE ((formE k).2.drop i) (ws.drop i) e = readE l := hI
    dsimp only
    refine g_seq ?_
    refine g_seq ?_
    refine g_region ?_
    refine gl_v rfl (o_move rfl) ?_
    refine gl_v rfl (o_move rfl) ?_
    refine gl_v rfl (o_lens rfl) ?_
    refine gl_v rfl (o_lss rfl rfl) ?_
    refine gl_nil ?_
    refine ge_then ?_
    refine g_cond rfl (fun hc3 => ?_) (fun hc3 => ?_)
    ·
     replace hc3 := hs_ hc3
     have hi1 : i < (formE k).2.length := by omega
     obtain ⟨x, hx⟩ : ∃ x, (formE k).2[i]? = some x := ⟨_, List.getElem?_eq_getElem hi1⟩
     obtain ⟨w, hw⟩ : ∃ w, ws[i]? = some w := ⟨_, List.getElem?_eq_getElem (show i < ws.length by omega)⟩
     have hxc := form_chars k x (List.mem_of_getElem? hx)
     refine g_skip ?_
     refine ge_then ?_
     refine g_seq ?_
     refine g_block ?_
     refine g_seq ?_
     refine g_seq ?_
     refine g_region ?_
     refine gl_v rfl (o_move rfl) ?_
     refine gl_v rfl (o_move rfl) ?_
     refine gl_v rfl (o_index_string (i := i) rfl rfl hx) ?_
     refine gl_v rfl (o_eql rfl rfl) ?_
     refine gl_nil ?_
     refine ge_then ?_
     refine g_cond rfl (fun hc4 => ?_) (fun hc4 => ?_)
     ·
      replace hc4 := hs_ hc4
      have hx116 : x.toNat = 116 := by omega
      refine g_seq ?_
      refine g_seq ?_
      refine g_region ?_
      refine gl_v rfl (o_move rfl) ?_
      refine gl_v rfl (o_move rfl) ?_
      refine gl_v rfl (o_addR ((i + 1 : Nat) : Int) (by rw [wr_i64 (by omega)]; omega) rfl rfl) ?_
      refine gl_v rfl (o_idxS (j := i + 1) rfl rfl (by simp only [List.length_cons]; omega)) ?_
      refine gl_v rfl (o_loadS rfl (show (wsC (w0 :: ws))[(i + 1) * 1]? = some (S w) by rw [Nat.mul_one]; show (wsC ws)[i]? = _; rw [List.getElem?_map, hw]; rfl)) ?_
      refine gl_c rfl (o_call rfl (RName_spec w (by have := hwl w (List.mem_cons_of_mem _ (List.mem_of_getElem? hw)); omega)) pA) ?_
      rintro _ R ⟨_, ⟨rfl, rfl⟩, rfl⟩
      try simp only [List.cons_append, List.nil_append]
      refine gl_v rfl (o_not rfl) ?_
      refine gl_nil ?_
      refine ge_then ?_
      refine g_cond rfl (fun hc5 => ?_) (fun hc5 => ?_)
      ·
       replace hc5 := hs_ hc5
       have hnm : ¬ isName w = true := by simpa using hc5
       refine g_seq ?_
       refine g_region ?_
       refine gl_v rfl (o_build rfl rfl) ?_
       first | refine gl_u (o_storeSA rfl rfl rfl rfl (by simp; omega) (by simp)) ?_ | refine gl_u (o_storeA rfl rfl rfl rfl rfl) ?_
       refine gl_v rfl (o_assign rfl) ?_
       refine gl_nil ?_
       refine ge_then ?_
       refine g_ret ?_
       refine ge_then_ret ?_
       refine ge_then_ret ?_
       refine ge_block_ret ?_
       refine ge_then_ret ?_
       refine ge_then_ret ?_
       refine ge_block_ret ?_
       refine ge_then_ret ?_
       refine ge_block_ret ?_
       refine ge_then_ret ?_
       refine ge_then_ret ?_
       refine ge_block_ret ?_
       refine ge_then_ret ?_
       rw [show readE l = none by rw [← hI, parts_step hx hw, part_tag hx116, if_neg hnm]; rfl]
       refine ret2ct (.inl rfl) rfl rfl rfl rfl rfl [] ⟨rfl, rfl⟩ (tO)
      ·
       replace hc5 := hs_ hc5
       have hnm : isName w = true := by simpa using hc5
       refine g_skip ?_
       refine ge_then ?_
       refine g_seq ?_
       refine g_region ?_
       refine gl_v rfl (o_move rfl) ?_
       refine gl_v rfl (o_move rfl) ?_
       refine gl_v rfl (o_addR ((i + 1 : Nat) : Int) (by rw [wr_i64 (by omega)]; omega) rfl rfl) ?_
       refine gl_v rfl (o_idxS (j := i + 1) rfl rfl (by simp only [List.length_cons]; omega)) ?_
       refine gl_v rfl (o_loadS rfl (show (wsC (w0 :: ws))[(i + 1) * 1]? = some (S w) by rw [Nat.mul_one]; show (wsC ws)[i]? = _; rw [List.getElem?_map, hw]; rfl)) ?_
       first | refine gl_v rfl (o_fldS rfl) ?_ | refine gl_v rfl (o_fld rfl) ?_
       first | refine gl_u (o_store rfl rfl rfl rfl) ?_ | refine gl_u (o_storeS rfl rfl rfl (by first | assumption | omega | simp)) ?_
       refine gl_nil ?_
       refine ge_then ?_
       refine g_exit ?_
       refine ge_then_exit ?_
       refine ge_block_exit ?_
       refine ge_then ?_
       refine g_region ?_
       refine gl_v rfl (o_move rfl) ?_
       refine gl_v rfl (o_addR ((i + 1 : Nat) : Int) (by rw [wr_i64 (by omega)]; omega) rfl rfl) ?_
       refine gl_v rfl (o_assign rfl) ?_
       refine gl_nil ?_
       refine ge_round (i + 1, { e with tag := w }) ⟨by show i + 1 ≤ (formE k).2.length; omega, by show partsE ((formE k).2.drop (i + 1)) (ws.drop (i + 1)) { e with tag := w } = readE l; rw [← hI, parts_step hx hw, part_tag hx116, if_pos hnm]; rfl⟩ (by show (formE k).2.length - (i + 1) < (formE k).2.length - i; omega) (Keep.cons rfl (Keep.cons rfl (Keep.cons rfl (Keep.cons rfl (Keep.cons rfl (Keep.cons rfl (Keep.nil))))))) (tO)
     ·
      replace hc4 := hs_ hc4
      have hx116 : ¬ x.toNat = 116 := by omega
      refine g_skip ?_
      refine ge_then ?_
      refine g_seq ?_
      refine g_region ?_
      refine gl_v rfl (o_move rfl) ?_
      refine gl_v rfl (o_move rfl) ?_
      refine gl_v rfl (o_addR ((i + 1 : Nat) : Int) (by rw [wr_i64 (by omega)]; omega) rfl rfl) ?_
      refine gl_v rfl (o_idxS (j := i + 1) rfl rfl (by simp only [List.length_cons]; omega)) ?_
      refine gl_v rfl (o_loadS rfl (show (wsC (w0 :: ws))[(i + 1) * 1]? = some (S w) by rw [Nat.mul_one]; show (wsC ws)[i]? = _; rw [List.getElem?_map, hw]; rfl)) ?_
      refine gl_c rfl (o_call rfl (Value_spec w 0 65535 (by omega) (hwl w (List.mem_cons_of_mem _ (List.mem_of_getElem? hw)))) pA) ?_
      rintro _ R ⟨_, ⟨n, rfl, hn, rfl⟩, rfl⟩
      try simp only [List.cons_append, List.nil_append]
      refine gl_v rfl (o_move rfl) ?_
      refine gl_v rfl (o_extract rfl rfl) ?_
      refine gl_v rfl (o_extract rfl rfl) ?_
      refine gl_v rfl (o_assign rfl) ?_
      refine gl_v rfl (o_assign rfl) ?_
      refine gl_nil ?_
      refine ge_then ?_
      refine g_seq ?_
      refine g_seq ?_
      refine g_region ?_
      refine gl_v rfl (o_move rfl) ?_
      refine gl_v rfl (o_not rfl) ?_
      refine gl_nil ?_
      refine ge_then ?_
      refine g_cond rfl (fun hc6 => ?_) (fun hc6 => ?_)
      ·
       replace hc6 := hs_ hc6
       have hsn := isSome_no (o := numV 0 65535 w) (by simpa using hc6)
       refine g_seq ?_
       refine g_region ?_
       refine gl_v rfl (o_build rfl rfl) ?_
       first | refine gl_u (o_storeSA rfl rfl rfl rfl (by simp; omega) (by simp)) ?_ | refine gl_u (o_storeA rfl rfl rfl rfl rfl) ?_
       refine gl_v rfl (o_assign rfl) ?_
       refine gl_nil ?_
       refine ge_then ?_
       refine g_ret ?_
       refine ge_then_ret ?_
       refine ge_block_ret ?_
       refine ge_then_ret ?_
       refine ge_then_ret ?_
       refine ge_block_ret ?_
       refine ge_then_ret ?_
       refine ge_block_ret ?_
       refine ge_then_ret ?_
       refine ge_then_ret ?_
       refine ge_block_ret ?_
       refine ge_then_ret ?_
       rw [show readE l = none by rw [← hI, parts_step hx hw, part_nil hx116 hsn]; rfl]
       refine ret2ct (.inl rfl) rfl rfl rfl rfl rfl [] ⟨rfl, rfl⟩ (tO)
      ·
       replace hc6 := hs_ hc6
       have hsn := isSome_get (o := numV 0 65535 w) (n := n) (by simpa using hc6) hn
       refine g_skip ?_
       refine ge_then ?_
       refine g_seq ?_
       refine g_region ?_
       refine gl_v rfl (o_move rfl) ?_
       refine gl_v rfl (o_move rfl) ?_
       refine gl_v rfl (o_index_string (i := i) rfl rfl hx) ?_
       refine gl_nil ?_
       refine ge_then ?_
       refine g_block ?_
       refine g_seq ?_
       refine g_region ?_
       refine gl_v rfl (o_eql rfl rfl) ?_
       refine gl_v rfl (o_assign rfl) ?_
       refine gl_nil ?_
       refine ge_then ?_
       refine g_cond rfl (fun hc7 => ?_) (fun hc7 => ?_)
       ·
        replace hc7 := hs_ hc7
        have h97 : x.toNat = 97 := by omega
        refine g_region ?_
        refine gl_v rfl (o_move rfl) ?_
        first | refine gl_v rfl (o_fldS rfl) ?_ | refine gl_v rfl (o_fld rfl) ?_
        first | refine gl_u (o_store rfl rfl rfl rfl) ?_ | refine gl_u (o_storeS rfl rfl rfl (by first | assumption | omega | simp)) ?_
        refine gl_nil ?_
        refine ge_block ?_
        refine ge_block ?_
        refine ge_then ?_
        refine g_region ?_
        refine gl_v rfl (o_move rfl) ?_
        refine gl_v rfl (o_addR ((i + 1 : Nat) : Int) (by rw [wr_i64 (by omega)]; omega) rfl rfl) ?_
        refine gl_v rfl (o_assign rfl) ?_
        refine gl_nil ?_
        refine ge_round (i + 1, { e with a := n }) ⟨by show i + 1 ≤ (formE k).2.length; omega, by show partsE ((formE k).2.drop (i + 1)) (ws.drop (i + 1)) { e with a := n } = readE l; rw [← hI, parts_step hx hw, part_num hx116 hsn, if_pos h97]; rfl⟩ (by show (formE k).2.length - (i + 1) < (formE k).2.length - i; omega) (Keep.cons rfl (Keep.cons rfl (Keep.cons rfl (Keep.cons rfl (Keep.cons rfl (Keep.cons rfl (Keep.nil))))))) (tO)
       ·
        replace hc7 := hs_ hc7
        have h97 : ¬ x.toNat = 97 := by omega
        refine g_seq ?_
        refine g_region ?_
        refine gl_v rfl (o_eql rfl rfl) ?_
        refine gl_v rfl (o_assign rfl) ?_
        refine gl_nil ?_
        refine ge_then ?_
        refine g_cond rfl (fun hc8 => ?_) (fun hc8 => ?_)
        ·
         replace hc8 := hs_ hc8
         have h98 : x.toNat = 98 := by omega
         refine g_region ?_
         refine gl_v rfl (o_move rfl) ?_
         first | refine gl_v rfl (o_fldS rfl) ?_ | refine gl_v rfl (o_fld rfl) ?_
         first | refine gl_u (o_store rfl rfl rfl rfl) ?_ | refine gl_u (o_storeS rfl rfl rfl (by first | assumption | omega | simp)) ?_
         refine gl_nil ?_
         refine ge_block ?_
         refine ge_block ?_
         refine ge_then ?_
         refine g_region ?_
         refine gl_v rfl (o_move rfl) ?_
         refine gl_v rfl (o_addR ((i + 1 : Nat) : Int) (by rw [wr_i64 (by omega)]; omega) rfl rfl) ?_
         refine gl_v rfl (o_assign rfl) ?_
         refine gl_nil ?_
         refine ge_round (i + 1, { e with b := n }) ⟨by show i + 1 ≤ (formE k).2.length; omega, by show partsE ((formE k).2.drop (i + 1)) (ws.drop (i + 1)) { e with b := n } = readE l; rw [← hI, parts_step hx hw, part_num hx116 hsn, if_neg h97, if_pos h98]; rfl⟩ (by show (formE k).2.length - (i + 1) < (formE k).2.length - i; omega) (Keep.cons rfl (Keep.cons rfl (Keep.cons rfl (Keep.cons rfl (Keep.cons rfl (Keep.cons rfl (Keep.nil))))))) (tO)
        ·
         replace hc8 := hs_ hc8
         have h98 : ¬ x.toNat = 98 := by omega
         refine g_seq ?_
         refine g_region ?_
         refine gl_v rfl (o_eql rfl rfl) ?_
         refine gl_v rfl (o_assign rfl) ?_
         refine gl_nil ?_
         refine ge_then ?_
         refine g_cond rfl (fun hc9 => ?_) (fun hc9 => ?_)
         ·
          replace hc9 := hs_ hc9
          refine g_region ?_
          refine gl_v rfl (o_move rfl) ?_
          first | refine gl_v rfl (o_fldS rfl) ?_ | refine gl_v rfl (o_fld rfl) ?_
          first | refine gl_u (o_store rfl rfl rfl rfl) ?_ | refine gl_u (o_storeS rfl rfl rfl (by first | assumption | omega | simp)) ?_
          refine gl_nil ?_
          refine ge_block ?_
          refine ge_block ?_
          refine ge_then ?_
          refine g_region ?_
          refine gl_v rfl (o_move rfl) ?_
          refine gl_v rfl (o_addR ((i + 1 : Nat) : Int) (by rw [wr_i64 (by omega)]; omega) rfl rfl) ?_
          refine gl_v rfl (o_assign rfl) ?_
          refine gl_nil ?_
          refine ge_round (i + 1, { e with n := n }) ⟨by show i + 1 ≤ (formE k).2.length; omega, by show partsE ((formE k).2.drop (i + 1)) (ws.drop (i + 1)) { e with n := n } = readE l; rw [← hI, parts_step hx hw, part_num hx116 hsn, if_neg h97, if_neg h98]; rfl⟩ (by show (formE k).2.length - (i + 1) < (formE k).2.length - i; omega) (Keep.cons rfl (Keep.cons rfl (Keep.cons rfl (Keep.cons rfl (Keep.cons rfl (Keep.cons rfl (Keep.nil))))))) (tO)
         ·
          replace hc9 := hs_ hc9
          exfalso; omega
    ·
     replace hc3 := hs_ hc3
     obtain rfl : i = (formE k).2.length := by omega
     have hyes : readE l = some e := by rw [← hI, List.drop_length, List.drop_eq_nil_of_le (show ws.length ≤ (formE k).2.length by omega)]; rfl
     refine g_exit ?_
     refine ge_then_exit ?_
     refine ge_then_exit ?_
     refine ge_block_exit ?_
     refine ge_then ?_
     refine g_seq ?_
     refine g_region ?_
     first | refine gl_v rfl (o_loadSA rfl rfl rfl) ?_ | refine gl_v rfl (o_loadA rfl rfl rfl) ?_
     first | refine gl_u (o_storeSA rfl rfl rfl rfl (by simp; omega) (by simp)) ?_ | refine gl_u (o_storeA rfl rfl rfl rfl rfl) ?_
     refine gl_v rfl (o_assign rfl) ?_
     refine gl_nil ?_
     refine ge_then ?_
     refine g_ret ?_
     refine ge_block_ret ?_
     refine ge_then_ret ?_
     refine ge_then_ret ?_
     refine ge_block_ret ?_
     refine ge_then_ret ?_
     rw [hyes]
     refine ret2ct (.inl rfl) rfl rfl rfl rfl rfl [] ⟨rfl, rfl⟩ (tO)
  ·
   refine g_region ?_
   refine gl_v rfl (o_move rfl) ?_
   refine gl_v rfl (o_idxS (j := 0) rfl rfl (by simp only [List.length_cons]; omega)) ?_
   refine gl_v rfl (o_loadS rfl (show (wsC (w0 :: ws))[0 * 1]? = some (S w0) from rfl)) ?_
   refine gl_v rfl (o_move rfl) ?_
   refine gl_v rfl (o_is (c := true) (by rw [decide_eq_false hverb]; rfl) (o_neqs rfl rfl)) ?_
   refine gl_v rfl (o_move rfl) ?_
   refine gl_gF rfl rfl rfl rfl ?_
   refine gl_gF rfl rfl rfl rfl ?_
   refine gl_gF rfl rfl rfl rfl ?_
   refine gl_gF rfl rfl rfl rfl ?_
   refine gl_gF rfl rfl rfl rfl ?_
   refine gl_gF rfl rfl rfl rfl ?_
   refine gl_v rfl (o_pickT rfl rfl rfl) ?_
   refine gl_nil ?_
   refine ge_then ?_
   refine g_cond_true rfl ?_
   refine g_exit ?_
   refine ge_then_exit ?_
   refine ge_block_exit ?_
   refine ge_then ?_
   refine g_region ?_
   refine gl_v rfl (o_move rfl) ?_
   refine gl_v rfl (o_addR ((k + 1 : Nat) : Int) (by rw [wr_i64 (by omega)]; omega) rfl rfl) ?_
   refine gl_v rfl (o_assign rfl) ?_
   refine gl_nil ?_
   refine ge_round (k + 1) ⟨by show 1 ≤ k + 1; omega, by show k + 1 ≤ 8; omega, fun j h1 h2 h3 => ?_⟩ (by show 8 - (k + 1) < 8 - k; omega) (Keep.cons rfl (Keep.cons rfl (Keep.cons rfl (Keep.nil)))) (tO)
   by_cases h9 : j = k
   · rw [h9] at h3; exact hverb h3.1
   · exact hk j h1 (by omega) h3
 ·
  replace hc1 := hs_ hc1
  obtain rfl : k = 8 := by omega
  have hno := readE_none hsp hk
  refine g_exit ?_
  refine ge_then_exit ?_
  refine ge_then_exit ?_
  refine ge_block_exit ?_
  refine ge_then ?_
  refine g_seq ?_
  refine g_region ?_
  refine gl_v rfl (o_build rfl rfl) ?_
  first | refine gl_u (o_storeSA rfl rfl rfl rfl (by simp; omega) (by simp)) ?_ | refine gl_u (o_storeA rfl rfl rfl rfl rfl) ?_
  refine gl_v rfl (o_assign rfl) ?_
  refine gl_nil ?_
  refine ge_then ?_
  refine g_ret ?_
  rw [hno]
  refine ret2ct (.inl rfl) rfl rfl rfl rfl rfl [] ⟨rfl, rfl⟩ (tO)

theorem refG_num {e : Ent} {x : UInt8} {cs s : By} {left : Ent} (h : ¬ x.toNat = 116) : refG e (x :: cs) s left = if 0 ≤ (if x.toNat = 97 then e.a else if x.toNat = 98 then e.b else e.n) ∧ (if x.toNat = 97 then e.a else if x.toNat = 98 then e.b else e.n) ≤ 65535 then refG e cs (s ++ 32 :: itoaB (if x.toNat = 97 then e.a else if x.toNat = 98 then e.b else e.n)) (if x.toNat = 97 then { left with a := 0 } else if x.toNat = 98 then { left with b := 0 } else { left with n := 0 }) else none := if_neg h
theorem refG_tag {e : Ent} {x : UInt8} {cs s : By} {left : Ent} (h : x.toNat = 116) : refG e (x :: cs) s left = if isName e.tag then refG e cs (s ++ 32 :: e.tag) { left with tag := [] } else none := if_pos h
theorem refG_nil {e : Ent} {s : By} {left : Ent} : refG e [] s left = if left = ent0 then some s else none := rfl
theorem app_sp (s w : By) : s ++ [32] ++ w = s ++ 32 :: w := by simp
theorem refL_F {e : Ent} (h : ¬ (formE e.kind).1 = []) : refL e = refG e (formE e.kind).2 (formE e.kind).1 { e with kind := 0 } := if_neg h
theorem refL_T {e : Ent} (h : (formE e.kind).1 = []) : refL e = none := if_pos h

set_option maxRecDepth 8000 in
set_option maxHeartbeats 3000000 in
theorem rLine_spec (e : Ent) (hr : EntR e) : FnS Tryd.prog 10 [.agg (entC e).toArray] [] (fun u Bs => u = (match lineE e with | some s => Value.tuple #[S s, .bool true] | none => Value.tuple #[S [], .bool false]) ∧ Bs = []) := by
 refine fn_body Tryd.func10 rfl rfl rfl ?_
 intro W0 R
 simp only [List.zipIdx_cons, List.zipIdx_nil, List.map_cons, List.map_nil, Nat.zero_add, Nat.reduceAdd, List.cons_append, List.nil_append]
 have hfl := formE_len e.kind
 have hkm : (entC e).length = 5 := rfl
 have htg := hr.tag
 refine g_seq ?_
 refine g_region ?_
 refine gl_n rfl (o_boxA rfl) ?_
 rintro _ _ ⟨b1, rfl, rfl⟩
 refine gl_v rfl (o_assign rfl) ?_
 refine gl_v rfl (o_assign rfl) ?_
 refine gl_nil ?_
 refine ge_then ?_
 refine g_seq ?_
 refine g_region ?_
 first | refine gl_v rfl (o_fldS rfl) ?_ | refine gl_v rfl (o_fld rfl) ?_
 first | refine gl_v rfl (o_load rfl rfl) ?_ | refine gl_v rfl (o_loadS rfl rfl) ?_ | refine gl_v rfl (o_loadC rfl) ?_
 refine gl_c rfl (o_call rfl (rForm_spec e.kind) pA) ?_
 rintro _ R ⟨_, ⟨rfl, rfl⟩, rfl⟩
 try simp only [List.cons_append, List.nil_append]
 refine gl_v rfl (o_move rfl) ?_
 refine gl_v rfl (o_extract rfl rfl) ?_
 refine gl_v rfl (o_extract rfl rfl) ?_
 refine gl_v rfl (o_assign rfl) ?_
 refine gl_v rfl (o_assign rfl) ?_
 refine gl_nil ?_
 refine ge_then ?_
 refine g_seq ?_
 refine g_seq ?_
 refine g_region ?_
 refine gl_v rfl (o_move rfl) ?_
 refine gl_v rfl (o_eqls rfl rfl) ?_
 refine gl_nil ?_
 refine ge_then ?_
 refine g_cond rfl (fun hc1 => ?_) (fun hc1 => ?_)
 ·
  replace hc1 := hs_ hc1
  have hno : lineE e = none := by rw [← refL_eq]; exact refL_T (by simpa using hc1)
  refine g_seq ?_
  refine g_region ?_
  refine gl_v rfl (o_assign rfl) ?_
  refine gl_v rfl (o_assign rfl) ?_
  refine gl_nil ?_
  refine ge_then ?_
  refine g_ret ?_
  refine ge_then_ret ?_
  rw [hno]
  refine ret2 (.inl rfl) rfl rfl rfl  [] ⟨rfl, rfl⟩ (tO)
 ·
  replace hc1 := hs_ hc1
  have hne : ¬ (formE e.kind).1 = [] := by simpa using hc1
  refine g_skip ?_
  refine ge_then ?_
  refine g_seq ?_
  refine g_region ?_
  refine gl_v rfl (o_move rfl) ?_
  refine gl_v rfl (o_assign rfl) ?_
  refine gl_nil ?_
  refine ge_then ?_
  refine g_seq ?_
  refine g_region ?_
  first | refine gl_v rfl (o_loadSA rfl rfl rfl) ?_ | refine gl_v rfl (o_loadA rfl rfl rfl) ?_
  refine gl_n rfl (o_alloc) ?_
  rintro _ _ ⟨b7, rfl, rfl⟩
  first | refine gl_u (o_storeSA rfl rfl rfl rfl (by simp; omega) (by simp)) ?_ | refine gl_u (o_storeA rfl rfl rfl rfl rfl) ?_
  refine gl_nil ?_
  refine ge_then ?_
  refine g_seq ?_
  refine g_region ?_
  first | refine gl_v rfl (o_fldS rfl) ?_ | refine gl_v rfl (o_fld rfl) ?_
  first | refine gl_u (o_store rfl rfl rfl rfl) ?_ | refine gl_u (o_storeS rfl rfl rfl (by first | assumption | omega | simp)) ?_
  refine gl_nil ?_
  refine ge_then ?_
  refine g_seq ?_
  refine g_seq ?_
  refine g_region ?_
  refine gl_v rfl (o_assign rfl) ?_
  refine gl_nil ?_
  refine ge_then ?_
  refine g_block ?_
  refine g_loop (ι := Nat × By × Ent) (fun x => x.1 ≤ (formE e.kind).2.length ∧ x.2.1.length ≤ 5 + x.1 * 4000000001 ∧ refG e ((formE e.kind).2.drop x.1) x.2.1 x.2.2 = lineE e) (fun x => [(8, I64 x.1), (7, ptr b7 0), (6, S x.2.1), (5, S (formE e.kind).2), (1, ptr b1 0)]) (fun x => cel b7 23 (entC x.2.2) :: cel b1 23 (entC e) :: R) (fun x => (formE e.kind).2.length - x.1) (0, (formE e.kind).1, { e with kind := 0 }) (⟨Nat.zero_le _, by show (formE e.kind).1.length ≤ 5 + 0 * 4000000001; omega, by rw [← refL_eq]; exact (refL_F hne).symm⟩) (Keep.cons rfl (Keep.cons rfl (Keep.cons rfl (Keep.cons rfl (Keep.cons rfl (Keep.nil)))))) (tO) ?_
  rintro ⟨i, s, left⟩ ⟨hi, hsl, hI⟩
  replace hi : i ≤ (formE e.kind).2.length := hi
  replace hsl : s.length ≤ 5 + i * 4000000001 := hsl
  replace hI : refG e ((formE e.kind).2.drop i) s left = lineE e := hI
  dsimp only
  have hkl : (entC left).length = 5 := rfl
  refine g_seq ?_
  refine g_seq ?_
  refine g_region ?_
  refine gl_v rfl (o_move rfl) ?_
  refine gl_v rfl (o_move rfl) ?_
  refine gl_v rfl (o_lens rfl) ?_
  refine gl_v rfl (o_lss rfl rfl) ?_
  refine gl_nil ?_
  refine ge_then ?_
  refine g_cond rfl (fun hc2 => ?_) (fun hc2 => ?_)
  ·
   replace hc2 := hs_ hc2
   have hi1 : i < (formE e.kind).2.length := by omega
   obtain ⟨x, hx⟩ : ∃ x, (formE e.kind).2[i]? = some x := ⟨_, List.getElem?_eq_getElem hi1⟩
   have hxc := form_chars e.kind x (List.mem_of_getElem? hx)
   refine g_skip ?_
   refine ge_then ?_
   refine g_seq ?_
   refine g_block ?_
   refine g_seq ?_
   refine g_region ?_
   refine gl_v rfl (o_assign rfl) ?_
   refine gl_nil ?_
   refine ge_then ?_
   refine g_cut (fun act wo => ∃ (n : Int) (left' : Ent), refG e ((formE e.kind).2.drop i) s left = (if 0 ≤ n ∧ n ≤ 65535 then refG e ((formE e.kind).2.drop (i + 1)) (s ++ 32 :: itoaB n) left' else none) ∧ i64R n ∧ HasSl Tryd.f10.ntmps [(9, I64 n), (8, I64 i), (7, ptr b7 0), (6, S s), (5, S (formE e.kind).2), (1, ptr b1 0)] act ∧ St W0 (cel b7 23 (entC left') :: cel b1 23 (entC e) :: R) wo) ?_ ?_
   ·
    refine g_seq ?_
    refine g_region ?_
    refine gl_v rfl (o_move rfl) ?_
    refine gl_v rfl (o_move rfl) ?_
    refine gl_v rfl (o_index_string (i := i) rfl rfl hx) ?_
    refine gl_nil ?_
    refine ge_then ?_
    refine g_block ?_
    refine g_seq ?_
    refine g_region ?_
    refine gl_v rfl (o_eql rfl rfl) ?_
    refine gl_v rfl (o_assign rfl) ?_
    refine gl_nil ?_
    refine ge_then ?_
    refine g_cond rfl (fun hc3 => ?_) (fun hc3 => ?_)
    ·
     replace hc3 := hs_ hc3
     have h97 : x.toNat = 97 := by omega
     have hx116 : ¬ x.toNat = 116 := by omega
     refine g_seq ?_
     refine g_region ?_
     first | refine gl_v rfl (o_fldS rfl) ?_ | refine gl_v rfl (o_fld rfl) ?_
     first | refine gl_v rfl (o_load rfl rfl) ?_ | refine gl_v rfl (o_loadS rfl rfl) ?_ | refine gl_v rfl (o_loadC rfl) ?_
     refine gl_v rfl (o_assign rfl) ?_
     refine gl_nil ?_
     refine ge_then ?_
     refine g_region ?_
     first | refine gl_v rfl (o_fldS rfl) ?_ | refine gl_v rfl (o_fld rfl) ?_
     first | refine gl_u (o_store rfl rfl rfl rfl) ?_ | refine gl_u (o_storeS rfl rfl rfl (by first | assumption | omega | simp)) ?_
     refine gl_nil ?_
     refine ge_block ?_
     exact fun act wo hsl st => ⟨e.a, { left with a := 0 }, by rw [drop_at' hx, refG_num hx116]; simp only [if_pos h97], hr.a, hsl.keep (Keep.cons rfl (Keep.cons rfl (Keep.cons rfl (Keep.cons rfl (Keep.cons rfl (Keep.cons rfl (Keep.nil))))))), st.imp (tO)⟩
    ·
     replace hc3 := hs_ hc3
     have h97 : ¬ x.toNat = 97 := by omega
     refine g_seq ?_
     refine g_region ?_
     refine gl_v rfl (o_eql rfl rfl) ?_
     refine gl_v rfl (o_assign rfl) ?_
     refine gl_nil ?_
     refine ge_then ?_
     refine g_cond rfl (fun hc4 => ?_) (fun hc4 => ?_)
     ·
      replace hc4 := hs_ hc4
      have h98 : x.toNat = 98 := by omega
      have hx116 : ¬ x.toNat = 116 := by omega
      refine g_seq ?_
      refine g_region ?_
      first | refine gl_v rfl (o_fldS rfl) ?_ | refine gl_v rfl (o_fld rfl) ?_
      first | refine gl_v rfl (o_load rfl rfl) ?_ | refine gl_v rfl (o_loadS rfl rfl) ?_ | refine gl_v rfl (o_loadC rfl) ?_
      refine gl_v rfl (o_assign rfl) ?_
      refine gl_nil ?_
      refine ge_then ?_
      refine g_region ?_
      first | refine gl_v rfl (o_fldS rfl) ?_ | refine gl_v rfl (o_fld rfl) ?_
      first | refine gl_u (o_store rfl rfl rfl rfl) ?_ | refine gl_u (o_storeS rfl rfl rfl (by first | assumption | omega | simp)) ?_
      refine gl_nil ?_
      refine ge_block ?_
      exact fun act wo hsl st => ⟨e.b, { left with b := 0 }, by rw [drop_at' hx, refG_num hx116]; simp only [if_neg h97, if_pos h98], hr.b, hsl.keep (Keep.cons rfl (Keep.cons rfl (Keep.cons rfl (Keep.cons rfl (Keep.cons rfl (Keep.cons rfl (Keep.nil))))))), st.imp (tO)⟩
     ·
      replace hc4 := hs_ hc4
      have h98 : ¬ x.toNat = 98 := by omega
      refine g_seq ?_
      refine g_region ?_
      refine gl_v rfl (o_eql rfl rfl) ?_
      refine gl_v rfl (o_assign rfl) ?_
      refine gl_nil ?_
      refine ge_then ?_
      refine g_cond rfl (fun hc5 => ?_) (fun hc5 => ?_)
      ·
       replace hc5 := hs_ hc5
       have hx116 : ¬ x.toNat = 116 := by omega
       refine g_seq ?_
       refine g_region ?_
       first | refine gl_v rfl (o_fldS rfl) ?_ | refine gl_v rfl (o_fld rfl) ?_
       first | refine gl_v rfl (o_load rfl rfl) ?_ | refine gl_v rfl (o_loadS rfl rfl) ?_ | refine gl_v rfl (o_loadC rfl) ?_
       refine gl_v rfl (o_assign rfl) ?_
       refine gl_nil ?_
       refine ge_then ?_
       refine g_region ?_
       first | refine gl_v rfl (o_fldS rfl) ?_ | refine gl_v rfl (o_fld rfl) ?_
       first | refine gl_u (o_store rfl rfl rfl rfl) ?_ | refine gl_u (o_storeS rfl rfl rfl (by first | assumption | omega | simp)) ?_
       refine gl_nil ?_
       refine ge_block ?_
       exact fun act wo hsl st => ⟨e.n, { left with n := 0 }, by rw [drop_at' hx, refG_num hx116]; simp only [if_neg h97, if_neg h98], hr.n, hsl.keep (Keep.cons rfl (Keep.cons rfl (Keep.cons rfl (Keep.cons rfl (Keep.cons rfl (Keep.cons rfl (Keep.nil))))))), st.imp (tO)⟩
      ·
       replace hc5 := hs_ hc5
       refine g_seq ?_
       refine g_region ?_
       refine gl_v rfl (o_eql rfl rfl) ?_
       refine gl_v rfl (o_assign rfl) ?_
       refine gl_nil ?_
       refine ge_then ?_
       refine g_cond rfl (fun hc6 => ?_) (fun hc6 => ?_)
       ·
        replace hc6 := hs_ hc6
        have hx116 : x.toNat = 116 := by omega
        refine g_seq ?_
        refine g_region ?_
        first | refine gl_v rfl (o_fldS rfl) ?_ | refine gl_v rfl (o_fld rfl) ?_
        first | refine gl_u (o_store rfl rfl rfl rfl) ?_ | refine gl_u (o_storeS rfl rfl rfl (by first | assumption | omega | simp)) ?_
        refine gl_nil ?_
        refine ge_then ?_
        refine g_seq ?_
        refine g_seq ?_
        refine g_region ?_
        first | refine gl_v rfl (o_fldS rfl) ?_ | refine gl_v rfl (o_fld rfl) ?_
        first | refine gl_v rfl (o_load rfl rfl) ?_ | refine gl_v rfl (o_loadS rfl rfl) ?_ | refine gl_v rfl (o_loadC rfl) ?_
        refine gl_c rfl (o_call rfl (RName_spec e.tag (by omega)) pA) ?_
        rintro _ R ⟨_, ⟨rfl, rfl⟩, rfl⟩
        try simp only [List.cons_append, List.nil_append]
        refine gl_v rfl (o_not rfl) ?_
        refine gl_nil ?_
        refine ge_then ?_
        refine g_cond rfl (fun hc7 => ?_) (fun hc7 => ?_)
        ·
         replace hc7 := hs_ hc7
         have hnm : ¬ isName e.tag = true := by simpa using hc7
         refine g_seq ?_
         refine g_region ?_
         refine gl_v rfl (o_assign rfl) ?_
         refine gl_v rfl (o_assign rfl) ?_
         refine gl_nil ?_
         refine ge_then ?_
         refine g_ret ?_
         refine ge_then_ret ?_
         refine ge_block_ret ?_
         refine ge_then_ret ?_
         refine ge_block_ret ?_
         refine ge_then_ret ?_
         refine ge_then_ret ?_
         refine ge_block_ret ?_
         refine ge_then_ret ?_
         rw [show lineE e = none by rw [← hI, drop_at' hx, refG_tag hx116, if_neg hnm]]
         refine ret2 (.inl rfl) rfl rfl rfl  [] ⟨rfl, rfl⟩ (tO)
        ·
         replace hc7 := hs_ hc7
         have hnm : isName e.tag = true := by simpa using hc7
         refine g_skip ?_
         refine ge_then ?_
         refine g_seq ?_
         refine g_region ?_
         refine gl_v rfl (o_move rfl) ?_
         refine gl_v rfl (o_adds rfl rfl (by simp only [List.length_append, List.length_cons, List.length_nil]; omega)) ?_
         first | refine gl_v rfl (o_fldS rfl) ?_ | refine gl_v rfl (o_fld rfl) ?_
         first | refine gl_v rfl (o_load rfl rfl) ?_ | refine gl_v rfl (o_loadS rfl rfl) ?_ | refine gl_v rfl (o_loadC rfl) ?_
         refine gl_v rfl (o_adds rfl rfl (by simp only [List.length_append, List.length_cons, List.length_nil]; omega)) ?_
         refine gl_v rfl (o_assign rfl) ?_
         refine gl_nil ?_
         refine ge_then ?_
         refine g_exit ?_
         refine ge_block_pass rfl ?_
         refine ge_then_exit ?_
         refine ge_block_exit ?_
         refine ge_then ?_
         refine g_region ?_
         refine gl_v rfl (o_move rfl) ?_
         refine gl_v rfl (o_addR ((i + 1 : Nat) : Int) (by rw [wr_i64 (by omega)]; omega) rfl rfl) ?_
         refine gl_v rfl (o_assign rfl) ?_
         refine gl_nil ?_
         refine ge_round (i + 1, s ++ [32] ++ e.tag, { left with tag := [] }) ⟨by show i + 1 ≤ _; omega, by show (s ++ [32] ++ e.tag).length ≤ 5 + (i + 1) * 4000000001; simp only [List.length_append, List.length_cons, List.length_nil]; omega, by show refG e ((formE e.kind).2.drop (i + 1)) (s ++ [32] ++ e.tag) { left with tag := [] } = lineE e; rw [← hI, drop_at' hx, refG_tag hx116, if_pos hnm, app_sp]⟩ (by show _ - (i + 1) < _ - i; omega) (Keep.cons rfl (Keep.cons rfl (Keep.cons rfl (Keep.cons rfl (Keep.cons rfl (Keep.nil)))))) (tO)
       ·
        replace hc6 := hs_ hc6
        exfalso; omega
   ·
    rintro act wo ⟨n, left', hst, hnr, hsl, st⟩
    refine g_of ?_ hsl st
    clear hsl st act wo
    refine g_seq ?_
    refine g_seq ?_
    refine g_region ?_
    refine gl_v rfl (o_move rfl) ?_
    refine gl_v rfl (o_lss rfl rfl) ?_
    refine gl_v rfl (o_move rfl) ?_
    refine gl_g rfl rfl (fun hc8 => ?_) (fun hc8 => ?_) rfl
    ·
     have hc8' := hc8
     replace hc8' := hs_ hc8'
     refine gl_v rfl (o_move rfl) ?_
     refine gl_gT rfl rfl hc8 ?_
     refine gl_v rfl (o_gtr rfl rfl) ?_
     refine gl_v rfl (o_pickF hc8 rfl rfl) ?_
     refine gl_nil ?_
     refine ge_then ?_
     refine g_cond rfl (fun hc9 => ?_) (fun hc9 => ?_)
     ·
      replace hc9 := hs_ hc9
      refine g_seq ?_
      refine g_region ?_
      refine gl_v rfl (o_assign rfl) ?_
      refine gl_v rfl (o_assign rfl) ?_
      refine gl_nil ?_
      refine ge_then ?_
      refine g_ret ?_
      refine ge_then_ret ?_
      refine ge_block_ret ?_
      refine ge_then_ret ?_
      refine ge_then_ret ?_
      refine ge_block_ret ?_
      refine ge_then_ret ?_
      rw [show lineE e = none by rw [← hI, hst, if_neg (by omega)]]
      refine ret2 (.inl rfl) rfl rfl rfl  [] ⟨rfl, rfl⟩ (tO)
     ·
      replace hc9 := hs_ hc9
      refine g_skip ?_
      refine ge_then ?_
      refine g_region ?_
      refine gl_v rfl (o_move rfl) ?_
      refine gl_v rfl (o_adds rfl rfl (by have := itoa_len hnr; simp only [List.length_append, List.length_cons, List.length_nil]; omega)) ?_
      refine gl_v rfl (o_move rfl) ?_
      refine gl_c rfl (o_call rfl (Number_spec n (by omega)) pA) ?_
      rintro _ R ⟨_, ⟨rfl, rfl⟩, rfl⟩
      try simp only [List.cons_append, List.nil_append]
      refine gl_v rfl (o_adds rfl rfl (by have := itoa_len hnr; simp only [List.length_append, List.length_cons, List.length_nil]; omega)) ?_
      refine gl_v rfl (o_assign rfl) ?_
      refine gl_nil ?_
      refine ge_block ?_
      refine ge_then ?_
      refine g_region ?_
      refine gl_v rfl (o_move rfl) ?_
      refine gl_v rfl (o_addR ((i + 1 : Nat) : Int) (by rw [wr_i64 (by omega)]; omega) rfl rfl) ?_
      refine gl_v rfl (o_assign rfl) ?_
      refine gl_nil ?_
      refine ge_round (i + 1, s ++ [32] ++ itoaB n, left') ⟨by show i + 1 ≤ _; omega, by have := itoa_len hnr; show (s ++ [32] ++ itoaB n).length ≤ 5 + (i + 1) * 4000000001; simp only [List.length_append, List.length_cons, List.length_nil]; omega, by show refG e ((formE e.kind).2.drop (i + 1)) (s ++ [32] ++ itoaB n) left' = lineE e; rw [← hI, hst, if_pos ⟨by omega, by omega⟩, app_sp]⟩ (by show _ - (i + 1) < _ - i; omega) (Keep.cons rfl (Keep.cons rfl (Keep.cons rfl (Keep.cons rfl (Keep.cons rfl (Keep.nil)))))) (tO)
    ·
     have hc8' := hc8
     replace hc8' := hs_ hc8'
     simp only [putO]
     refine gl_gF rfl rfl hc8 rfl ?_
     refine gl_v rfl (o_pickT hc8 rfl rfl) ?_
     refine gl_nil ?_
     refine ge_then ?_
     refine g_cond_true rfl ?_
     refine g_seq ?_
     refine g_region ?_
     refine gl_v rfl (o_assign rfl) ?_
     refine gl_v rfl (o_assign rfl) ?_
     refine gl_nil ?_
     refine ge_then ?_
     refine g_ret ?_
     refine ge_then_ret ?_
     refine ge_block_ret ?_
     refine ge_then_ret ?_
     refine ge_then_ret ?_
     refine ge_block_ret ?_
     refine ge_then_ret ?_
     rw [show lineE e = none by rw [← hI, hst, if_neg (by omega)]]
     refine ret2 (.inl rfl) rfl rfl rfl  [] ⟨rfl, rfl⟩ (tO)
  ·
   replace hc2 := hs_ hc2
   obtain rfl : i = (formE e.kind).2.length := by omega
   rw [List.drop_length, refG_nil] at hI
   refine g_exit ?_
   refine ge_then_exit ?_
   refine ge_then_exit ?_
   refine ge_block_exit ?_
   refine ge_then ?_
   refine g_seq ?_
   refine g_seq ?_
   by_cases hl0 : left = ent0
   ·
    refine g_region ?_
    first | refine gl_v rfl (o_loadSA rfl rfl rfl) ?_ | refine gl_v rfl (o_loadA rfl rfl rfl) ?_
    refine gl_v rfl (o_build rfl rfl) ?_
    refine gl_v rfl (o_is (c := false) (by show (!flatEq (entC left) (entC ent0)) = false; rw [flatEq_ent, decide_eq_true hl0]; rfl) (o_neqA rfl rfl rfl rfl)) ?_
    refine gl_nil ?_
    refine ge_then ?_
    refine g_cond_false rfl ?_
    refine g_skip ?_
    refine ge_then ?_
    refine g_seq ?_
    refine g_region ?_
    refine gl_v rfl (o_move rfl) ?_
    refine gl_v rfl (o_assign rfl) ?_
    refine gl_v rfl (o_assign rfl) ?_
    refine gl_nil ?_
    refine ge_then ?_
    refine g_ret ?_
    rw [show lineE e = some s by rw [← hI, if_pos hl0]]
    refine ret2 (.inl rfl) rfl rfl rfl  [] ⟨rfl, rfl⟩ (tO)
   ·
    refine g_region ?_
    first | refine gl_v rfl (o_loadSA rfl rfl rfl) ?_ | refine gl_v rfl (o_loadA rfl rfl rfl) ?_
    refine gl_v rfl (o_build rfl rfl) ?_
    refine gl_v rfl (o_is (c := true) (by show (!flatEq (entC left) (entC ent0)) = true; rw [flatEq_ent, decide_eq_false hl0]; rfl) (o_neqA rfl rfl rfl rfl)) ?_
    refine gl_nil ?_
    refine ge_then ?_
    refine g_cond_true rfl ?_
    refine g_seq ?_
    refine g_region ?_
    refine gl_v rfl (o_assign rfl) ?_
    refine gl_v rfl (o_assign rfl) ?_
    refine gl_nil ?_
    refine ge_then ?_
    refine g_ret ?_
    refine ge_then_ret ?_
    rw [show lineE e = none by rw [← hI, if_neg hl0]]
    refine ret2 (.inl rfl) rfl rfl rfl  [] ⟨rfl, rfl⟩ (tO)

set_option maxRecDepth 8000 in
set_option maxHeartbeats 2000000 in
theorem rText_spec (v : Value) (A : Assn) (es : List Ent) (hes : ∀ e ∈ es, EntR e) (hn : es.length ≤ 20000) [RdA v A es.length (es.flatMap entC)] : FnS Tryd.prog 18 [v] [A] (fun u Bs => u = .tuple #[S (textS es).1, I64 (textS es).2.1, I64 (textS es).2.2] ∧ Bs = [A]) := by
 refine fn_body Tryd.func18 rfl rfl rfl ?_
 intro W0 R
 simp only [List.zipIdx_cons, List.zipIdx_nil, List.map_cons, List.map_nil, Nat.zero_add, Nat.reduceAdd, List.cons_append, List.nil_append]
 refine g_seq ?_
 refine g_region ?_
 refine gl_v rfl (o_assign rfl) ?_
 refine gl_v rfl (o_assign rfl) ?_
 refine gl_v rfl (o_assign rfl) ?_
 refine gl_nil ?_
 refine ge_then ?_
 refine g_seq ?_
 refine g_region ?_
 refine gl_v rfl (o_assign rfl) ?_
 refine gl_nil ?_
 refine ge_then ?_
 refine g_seq ?_
 refine g_seq ?_
 refine g_region ?_
 refine gl_v rfl (o_assign rfl) ?_
 refine gl_nil ?_
 refine ge_then ?_
 refine g_block ?_
 refine g_loop (ι := Nat × By) (fun x => x.1 ≤ es.length ∧ x.2.length ≤ x.1 * 5242886 ∧ textG x.1 (es.drop x.1) x.2 = textS es) (fun x => [(6, I64 x.1), (5, S x.2), (0, v)]) (fun x => A :: R) (fun x => es.length - x.1) (0, []) (⟨Nat.zero_le _, Nat.zero_le _, rfl⟩) (Keep.cons rfl (Keep.cons rfl (Keep.cons rfl (Keep.nil)))) (tO) ?_
 rintro ⟨i, b⟩ ⟨hi, hb, hI⟩
 replace hi : i ≤ es.length := hi
 replace hb : b.length ≤ i * 5242886 := hb
 replace hI : textG i (es.drop i) b = textS es := hI
 dsimp only
 refine g_seq ?_
 refine g_seq ?_
 refine g_region ?_
 refine gl_v rfl (o_move rfl) ?_
 refine gl_v rfl (o_move rfl) ?_
 first | refine gl_v rfl (o_len rfl) ?_ | refine gl_v rfl (o_lenL rfl) ?_
 refine gl_v rfl (o_lss rfl rfl) ?_
 refine gl_nil ?_
 refine ge_then ?_
 refine g_cond rfl (fun hc1 => ?_) (fun hc1 => ?_)
 ·
  replace hc1 := hs_ hc1
  have hi1 : i < es.length := by omega
  obtain ⟨e, he⟩ : ∃ e, es[i]? = some e := ⟨_, List.getElem?_eq_getElem hi1⟩
  rw [drop_at' he] at hI
  have her := hes e (List.mem_of_getElem? he)
  refine g_skip ?_
  refine ge_then ?_
  refine g_seq ?_
  refine g_block ?_
  refine g_seq ?_
  rcases hle : lineE e with _ | s
  ·
   refine g_region ?_
   refine gl_v rfl (o_move rfl) ?_
   refine gl_v rfl (o_move rfl) ?_
   refine gl_v rfl (o_idxS rfl rfl hi1) ?_
   refine gl_v rfl (o_loadSA (vs := entC e) rfl (entF_take he) rfl) ?_
   refine gl_c rfl (o_call rfl (rLine_spec e her) pA) ?_
   rintro _ R ⟨_, ⟨rfl, rfl⟩, rfl⟩
   try simp only [List.cons_append, List.nil_append]
   rw [hle]; dsimp only
   refine gl_v rfl (o_move rfl) ?_
   refine gl_v rfl (o_extract rfl rfl) ?_
   refine gl_v rfl (o_extract rfl rfl) ?_
   refine gl_v rfl (o_assign rfl) ?_
   refine gl_v rfl (o_assign rfl) ?_
   refine gl_nil ?_
   refine ge_then ?_
   refine g_seq ?_
   refine g_seq ?_
   refine g_region ?_
   refine gl_v rfl (o_move rfl) ?_
   refine gl_v rfl (o_is (c := true) (by rfl) (o_not rfl)) ?_
   refine gl_nil ?_
   refine ge_then ?_
   refine g_cond_true rfl ?_
   refine g_seq ?_
   refine g_region ?_
   refine gl_v rfl (o_move rfl) ?_
   refine gl_v rfl (o_assign rfl) ?_
   refine gl_v rfl (o_assign rfl) ?_
   refine gl_v rfl (o_assign rfl) ?_
   refine gl_nil ?_
   refine ge_then ?_
   refine g_ret ?_
   refine ge_then_ret ?_
   refine ge_block_ret ?_
   refine ge_then_ret ?_
   refine ge_then_ret ?_
   refine ge_block_ret ?_
   refine ge_then_ret ?_
   rw [← hI, text_no hle]
   refine ret3 (.inl rfl) rfl rfl rfl rfl  [A] ⟨rfl, rfl⟩ (tO)
  ·
   refine g_region ?_
   refine gl_v rfl (o_move rfl) ?_
   refine gl_v rfl (o_move rfl) ?_
   refine gl_v rfl (o_idxS rfl rfl hi1) ?_
   refine gl_v rfl (o_loadSA (vs := entC e) rfl (entF_take he) rfl) ?_
   refine gl_c rfl (o_call rfl (rLine_spec e her) pA) ?_
   rintro _ R ⟨_, ⟨rfl, rfl⟩, rfl⟩
   try simp only [List.cons_append, List.nil_append]
   rw [hle]; dsimp only
   refine gl_v rfl (o_move rfl) ?_
   refine gl_v rfl (o_extract rfl rfl) ?_
   refine gl_v rfl (o_extract rfl rfl) ?_
   refine gl_v rfl (o_assign rfl) ?_
   refine gl_v rfl (o_assign rfl) ?_
   refine gl_nil ?_
   refine ge_then ?_
   refine g_seq ?_
   refine g_seq ?_
   refine g_region ?_
   refine gl_v rfl (o_move rfl) ?_
   refine gl_v rfl (o_is (c := false) (by rfl) (o_not rfl)) ?_
   refine gl_nil ?_
   refine ge_then ?_
   refine g_cond_false rfl ?_
   refine g_skip ?_
   refine ge_then ?_
   refine g_region ?_
   refine gl_v rfl (o_move rfl) ?_
   refine gl_v rfl (o_move rfl) ?_
   refine gl_v rfl (o_adds rfl rfl (by have := lineE_len her hle; first | omega | (simp only [List.length_append, List.length_cons, List.length_nil]; omega))) ?_
   refine gl_v rfl (o_adds rfl rfl (by have := lineE_len her hle; first | omega | (simp only [List.length_append, List.length_cons, List.length_nil]; omega))) ?_
   rw [List.append_assoc]
   refine gl_v rfl (o_assign rfl) ?_
   refine gl_nil ?_
   refine ge_block ?_
   refine ge_then ?_
   refine g_region ?_
   refine gl_v rfl (o_move rfl) ?_
   refine gl_v rfl (o_addR ((i + 1 : Nat) : Int) (by rw [wr_i64 (by omega)]; omega) rfl rfl) ?_
   refine gl_v rfl (o_assign rfl) ?_
   refine gl_nil ?_
   refine ge_round (i + 1, b ++ (s ++ [10])) ⟨by show i + 1 ≤ es.length; omega, by show (b ++ (s ++ [10])).length ≤ (i + 1) * 5242886; have := lineE_len her hle; simp only [List.length_append, List.length_cons, List.length_nil]; omega, by rw [← hI]; exact (text_some hle).symm⟩ (by show es.length - (i + 1) < es.length - i; omega) (Keep.cons rfl (Keep.cons rfl (Keep.cons rfl (Keep.nil)))) (tO)
 ·
  replace hc1 := hs_ hc1
  obtain rfl : i = es.length := by omega
  rw [List.drop_length] at hI
  refine g_exit ?_
  refine ge_then_exit ?_
  refine ge_then_exit ?_
  refine ge_block_exit ?_
  refine ge_then ?_
  refine g_seq ?_
  refine g_seq ?_
  refine g_region ?_
  refine gl_v rfl (o_move rfl) ?_
  refine gl_v rfl (o_lens rfl) ?_
  refine gl_v rfl (o_gtr rfl rfl) ?_
  refine gl_nil ?_
  refine ge_then ?_
  refine g_cond rfl (fun hc2 => ?_) (fun hc2 => ?_)
  ·
   replace hc2 := hs_ hc2
   have hI2 : (([] : By), (0 : Int), (5 : Int)) = textS es := by rw [← hI, textG, if_pos (by omega)]
   refine g_seq ?_
   refine g_region ?_
   refine gl_v rfl (o_assign rfl) ?_
   refine gl_v rfl (o_assign rfl) ?_
   refine gl_v rfl (o_assign rfl) ?_
   refine gl_nil ?_
   refine ge_then ?_
   refine g_ret ?_
   refine ge_then_ret ?_
   rw [← hI2]
   refine ret3 (.inl rfl) rfl rfl rfl rfl  [A] ⟨rfl, rfl⟩ (tO)
  ·
   replace hc2 := hs_ hc2
   have hI2 : (b, (0 : Int), (0 : Int)) = textS es := by rw [← hI, textG, if_neg (by omega)]
   refine g_skip ?_
   refine ge_then ?_
   refine g_seq ?_
   refine g_region ?_
   refine gl_v rfl (o_move rfl) ?_
   refine gl_v rfl (o_assign rfl) ?_
   refine gl_v rfl (o_assign rfl) ?_
   refine gl_v rfl (o_assign rfl) ?_
   refine gl_nil ?_
   refine ge_then ?_
   refine g_ret ?_
   rw [← hI2]
   refine ret3 (.inl rfl) rfl rfl rfl rfl  [A] ⟨rfl, rfl⟩ (tO)

set_option maxRecDepth 8000 in
set_option maxHeartbeats 2000000 in
theorem rScript_spec (l : By) (hz : l.length ≤ 4000000000) : FnS Tryd.prog 20 [S l] [] (fun u Bs => ∃ a c, u = .tuple #[.slice a (scriptS l).1.length c, I64 (scriptS l).2.1, I64 (scriptS l).2.2] ∧ Bs = [own (.slice a ((scriptS l).1).length c) 23 5 ((scriptS l).1).length (((scriptS l).1).flatMap entC)]) := by
 refine fn_body Tryd.func20 rfl rfl rfl ?_
 intro W0 R
 simp only [List.zipIdx_cons, List.zipIdx_nil, List.map_cons, List.map_nil, Nat.zero_add, Nat.reduceAdd, List.cons_append, List.nil_append]
 refine g_seq ?_
 refine g_region ?_
 refine gl_v rfl (o_assign rfl) ?_
 refine gl_v rfl (o_assign rfl) ?_
 refine gl_v rfl (o_assign rfl) ?_
 refine gl_nil ?_
 refine ge_then ?_
 refine g_seq ?_
 refine g_seq ?_
 refine g_region ?_
 refine gl_v rfl (o_move rfl) ?_
 refine gl_v rfl (o_lens rfl) ?_
 refine gl_v rfl (o_gtr rfl rfl) ?_
 refine gl_nil ?_
 refine ge_then ?_
 refine g_cond rfl (fun hc1 => ?_) (fun hc1 => ?_)
 ·
  replace hc1 := hs_ hc1
  have hS : scriptS l = ([], 0, 5) := by unfold scriptS; rw [if_pos (by omega)]
  rw [hS]
  refine g_seq ?_
  refine g_region ?_
  refine gl_v rfl (o_assign rfl) ?_
  refine gl_v rfl (o_assign rfl) ?_
  refine gl_v rfl (o_assign rfl) ?_
  refine gl_nil ?_
  refine ge_then ?_
  refine g_ret ?_
  refine ge_then_ret ?_
  refine ret3 (.inl rfl) rfl rfl rfl rfl [own (.slice none ([]).length 0) 23 5 ([]).length (([]).flatMap entC)] (⟨none, 0, rfl, rfl⟩) (fun h s => own_nil0 h ((tO) h s))
 ·
  replace hc1 := hs_ hc1
  have hS : scriptS l = linesS 0 (splitB 10 l) [] := by unfold scriptS; rw [if_neg (by omega)]
  rw [hS]
  have hsl := split_len (c := 10) l
  refine g_skip ?_
  refine ge_then ?_
  refine g_seq ?_
  refine g_region ?_
  refine gl_v rfl (o_assign rfl) ?_
  refine gl_nil ?_
  refine ge_then ?_
  refine g_seq ?_
  refine g_region ?_
  refine gl_v rfl (o_move rfl) ?_
  refine gl_c rfl (o_call rfl (rLines_spec l (by omega)) pA) ?_
  rintro _ R ⟨_, ⟨la, lc, rfl, rfl⟩, rfl⟩
  try simp only [List.cons_append, List.nil_append]
  refine gl_v rfl (o_assign rfl) ?_
  refine gl_nil ?_
  refine ge_then ?_
  refine g_seq ?_
  refine g_seq ?_
  refine g_region ?_
  refine gl_v rfl (o_assign rfl) ?_
  refine gl_nil ?_
  refine ge_then ?_
  refine g_block ?_
  refine g_loop (ι := Nat × List Ent × Option Addr × Nat) (fun x => x.1 ≤ (splitB 10 l).length ∧ x.2.1.length ≤ x.1 ∧ linesS x.1 ((splitB 10 l).drop x.1) x.2.1 = linesS 0 (splitB 10 l) []) (fun x => [(7, I64 x.1), (6, .slice la (splitB 10 l).length lc), (5, .slice x.2.2.1 x.2.1.length x.2.2.2)]) (fun x => own (.slice x.2.2.1 (x.2.1).length x.2.2.2) 23 5 (x.2.1).length ((x.2.1).flatMap entC) :: own (.slice la (splitB 10 l).length lc) 9 1 (splitB 10 l).length (wsC (splitB 10 l)) :: R) (fun x => (splitB 10 l).length - x.1) (0, [], none, 0) (⟨Nat.zero_le _, Nat.le_refl _, rfl⟩) (Keep.cons rfl (Keep.cons rfl (Keep.cons rfl (Keep.nil)))) (fun h s => own_nil0 h ((tO) h s)) ?_
  rintro ⟨i, acc, a, c⟩ ⟨hi, hacc, hI⟩
  replace hi : i ≤ (splitB 10 l).length := hi
  replace hacc : acc.length ≤ i := hacc
  replace hI : linesS i ((splitB 10 l).drop i) acc = linesS 0 (splitB 10 l) [] := hI
  dsimp only
  refine g_seq ?_
  refine g_seq ?_
  refine g_region ?_
  refine gl_v rfl (o_move rfl) ?_
  refine gl_v rfl (o_move rfl) ?_
  first | refine gl_v rfl (o_len rfl) ?_ | refine gl_v rfl (o_lenL rfl) ?_
  refine gl_v rfl (o_lss rfl rfl) ?_
  refine gl_nil ?_
  refine ge_then ?_
  refine g_cond rfl (fun hc2 => ?_) (fun hc2 => ?_)
  ·
   replace hc2 := hs_ hc2
   have hi1 : i < (splitB 10 l).length := by omega
   obtain ⟨x, hx⟩ : ∃ x, (splitB 10 l)[i]? = some x := ⟨_, List.getElem?_eq_getElem hi1⟩
   rw [drop_at' hx] at hI
   have hxl := split_wlen (c := 10) l x (List.mem_of_getElem? hx)
   refine g_skip ?_
   refine ge_then ?_
   refine g_seq ?_
   refine g_block ?_
   refine g_seq ?_
   refine g_seq ?_
   rcases x with _ | ⟨ch, r⟩
   ·
    refine g_region ?_
    refine gl_v rfl (o_move rfl) ?_
    refine gl_v rfl (o_move rfl) ?_
    refine gl_v rfl (o_idxS rfl rfl hi1) ?_
    refine gl_v rfl (o_loadS rfl (show (wsC (splitB 10 l))[i * 1]? = some (S _) by rw [Nat.mul_one, List.getElem?_map, hx]; rfl)) ?_
    refine gl_v rfl (o_is (c := true) (by rfl) (o_eqls rfl rfl)) ?_
    refine gl_v rfl (o_move rfl) ?_
    refine gl_gF rfl rfl rfl rfl ?_
    refine gl_gF rfl rfl rfl rfl ?_
    refine gl_gF rfl rfl rfl rfl ?_
    refine gl_gF rfl rfl rfl rfl ?_
    refine gl_gF rfl rfl rfl rfl ?_
    refine gl_gF rfl rfl rfl rfl ?_
    refine gl_v rfl (o_pickT rfl rfl rfl) ?_
    refine gl_nil ?_
    refine ge_then ?_
    refine g_cond_true rfl ?_
    refine g_exit ?_
    refine ge_then_exit ?_
    refine ge_block_exit ?_
    refine ge_then ?_
    refine g_region ?_
    refine gl_v rfl (o_move rfl) ?_
    refine gl_v rfl (o_addR ((i + 1 : Nat) : Int) (by rw [wr_i64 (by omega)]; omega) rfl rfl) ?_
    refine gl_v rfl (o_assign rfl) ?_
    refine gl_nil ?_
    refine ge_round (i + 1, acc, a, c) ⟨by show i + 1 ≤ (splitB 10 l).length; omega, by show (acc).length ≤ i + 1; first | omega | (simp; omega), by rw [← hI]; exact (lines_pass rfl).symm⟩ (by show (splitB 10 l).length - (i + 1) < (splitB 10 l).length - i; omega) (Keep.cons rfl (Keep.cons rfl (Keep.cons rfl (Keep.nil)))) (tO)
   ·
    refine g_region ?_
    refine gl_v rfl (o_move rfl) ?_
    refine gl_v rfl (o_move rfl) ?_
    refine gl_v rfl (o_idxS rfl rfl hi1) ?_
    refine gl_v rfl (o_loadS rfl (show (wsC (splitB 10 l))[i * 1]? = some (S _) by rw [Nat.mul_one, List.getElem?_map, hx]; rfl)) ?_
    refine gl_v rfl (o_is (c := false) (by rfl) (o_eqls rfl rfl)) ?_
    refine gl_v rfl (o_move rfl) ?_
    refine gl_gT rfl rfl rfl ?_
    refine gl_v rfl (o_move rfl) ?_
    refine gl_gT rfl rfl rfl ?_
    refine gl_v rfl (o_move rfl) ?_
    refine gl_gT rfl rfl rfl ?_
    refine gl_v rfl (o_idxS rfl rfl hi1) ?_
    refine gl_gT rfl rfl rfl ?_
    refine gl_v rfl (o_loadS rfl (show (wsC (splitB 10 l))[i * 1]? = some (S _) by rw [Nat.mul_one, List.getElem?_map, hx]; rfl)) ?_
    refine gl_gT rfl rfl rfl ?_
    refine gl_v rfl (o_index_string (i := 0) rfl rfl (show (ch :: r)[0]? = some ch from rfl)) ?_
    refine gl_gT rfl rfl rfl ?_
    refine gl_v rfl (o_eql rfl rfl) ?_
    refine gl_v rfl (o_pickF rfl rfl rfl) ?_
    refine gl_nil ?_
    refine ge_then ?_
    refine g_cond rfl (fun hc3 => ?_) (fun hc3 => ?_)
    ·
     replace hc3 := hs_ hc3
     have hc35 : ch.toNat = 35 := by have h9 := hc3; omega
     have hps : passed (ch :: r) = true := by unfold passed; simp [hc35]
     refine g_exit ?_
     refine ge_then_exit ?_
     refine ge_block_exit ?_
     refine ge_then ?_
     refine g_region ?_
     refine gl_v rfl (o_move rfl) ?_
     refine gl_v rfl (o_addR ((i + 1 : Nat) : Int) (by rw [wr_i64 (by omega)]; omega) rfl rfl) ?_
     refine gl_v rfl (o_assign rfl) ?_
     refine gl_nil ?_
     refine ge_round (i + 1, acc, a, c) ⟨by show i + 1 ≤ (splitB 10 l).length; omega, by show (acc).length ≤ i + 1; first | omega | (simp; omega), by rw [← hI]; exact (lines_pass hps).symm⟩ (by show (splitB 10 l).length - (i + 1) < (splitB 10 l).length - i; omega) (Keep.cons rfl (Keep.cons rfl (Keep.cons rfl (Keep.nil)))) (tO)
    ·
     replace hc3 := hs_ hc3
     have hc35 : ¬ ch.toNat = 35 := by have h9 := hc3; omega
     have hps : passed (ch :: r) = false := by unfold passed; simp [hc35]
     refine g_skip ?_
     refine ge_then ?_
     refine g_seq ?_
     rcases hrd : readE (ch :: r) with _ | e
     ·
      refine g_region ?_
      refine gl_v rfl (o_move rfl) ?_
      refine gl_v rfl (o_move rfl) ?_
      refine gl_v rfl (o_idxS rfl rfl hi1) ?_
      refine gl_v rfl (o_loadS rfl (show (wsC (splitB 10 l))[i * 1]? = some (S _) by rw [Nat.mul_one, List.getElem?_map, hx]; rfl)) ?_
      refine gl_c rfl (o_call rfl (rRead_spec (ch :: r) (by omega)) pA) ?_
      rintro _ R ⟨_, ⟨rfl, rfl⟩, rfl⟩
      try simp only [List.cons_append, List.nil_append]
      rw [hrd]; dsimp only
      refine gl_v rfl (o_move rfl) ?_
      refine gl_v rfl (o_extract rfl rfl) ?_
      refine gl_v rfl (o_extract rfl rfl) ?_
      refine gl_n rfl (o_alloc) ?_
      rintro _ _ ⟨b8, rfl, rfl⟩
      first | refine gl_u (o_storeSA rfl rfl rfl rfl (by simp; omega) (by simp)) ?_ | refine gl_u (o_storeA rfl rfl rfl rfl rfl) ?_
      refine gl_v rfl (o_assign rfl) ?_
      refine gl_nil ?_
      refine ge_then ?_
      refine g_seq ?_
      refine g_seq ?_
      refine g_region ?_
      refine gl_v rfl (o_move rfl) ?_
      refine gl_v rfl (o_is (c := true) (by rfl) (o_not rfl)) ?_
      refine gl_nil ?_
      refine ge_then ?_
      refine g_cond_true rfl ?_
      refine g_seq ?_
      refine g_region ?_
      refine gl_v rfl (o_move rfl) ?_
      refine gl_v rfl (o_addR ((i + 1 : Nat) : Int) (by rw [wr_i64 (by omega)]; omega) rfl rfl) ?_
      refine gl_v rfl (o_assign rfl) ?_
      refine gl_v rfl (o_assign rfl) ?_
      refine gl_v rfl (o_assign rfl) ?_
      refine gl_nil ?_
      refine ge_then ?_
      refine g_ret ?_
      refine ge_then_ret ?_
      refine ge_block_ret ?_
      refine ge_then_ret ?_
      refine ge_then_ret ?_
      refine ge_block_ret ?_
      refine ge_then_ret ?_
      rw [← hI, lines_no hps hrd]
      refine ret3 (.inl rfl) rfl rfl rfl rfl  [own (.slice none ([]).length 0) 23 5 ([]).length (([]).flatMap entC)] ⟨none, 0, rfl, rfl⟩ (fun h s => own_nil0 h ((tO) h s))
     ·
      refine g_region ?_
      refine gl_v rfl (o_move rfl) ?_
      refine gl_v rfl (o_move rfl) ?_
      refine gl_v rfl (o_idxS rfl rfl hi1) ?_
      refine gl_v rfl (o_loadS rfl (show (wsC (splitB 10 l))[i * 1]? = some (S _) by rw [Nat.mul_one, List.getElem?_map, hx]; rfl)) ?_
      refine gl_c rfl (o_call rfl (rRead_spec (ch :: r) (by omega)) pA) ?_
      rintro _ R ⟨_, ⟨rfl, rfl⟩, rfl⟩
      try simp only [List.cons_append, List.nil_append]
      rw [hrd]; dsimp only
      refine gl_v rfl (o_move rfl) ?_
      refine gl_v rfl (o_extract rfl rfl) ?_
      refine gl_v rfl (o_extract rfl rfl) ?_
      refine gl_n rfl (o_alloc) ?_
      rintro _ _ ⟨b8, rfl, rfl⟩
      first | refine gl_u (o_storeSA rfl rfl rfl rfl (by simp; omega) (by simp)) ?_ | refine gl_u (o_storeA rfl rfl rfl rfl rfl) ?_
      refine gl_v rfl (o_assign rfl) ?_
      refine gl_nil ?_
      refine ge_then ?_
      refine g_seq ?_
      refine g_seq ?_
      refine g_region ?_
      refine gl_v rfl (o_move rfl) ?_
      refine gl_v rfl (o_is (c := false) (by rfl) (o_not rfl)) ?_
      refine gl_nil ?_
      refine ge_then ?_
      refine g_cond_false rfl ?_
      refine g_skip ?_
      refine ge_then ?_
      refine g_region ?_
      refine gl_v rfl (o_move rfl) ?_
      first | refine gl_v rfl (o_loadSA rfl rfl rfl) ?_ | refine gl_v rfl (o_loadA rfl rfl rfl) ?_
      first | refine gl_n rfl (o_buildS1 rfl rfl rfl) ?_ | refine gl_n rfl (o_buildS1A rfl rfl rfl rfl) ?_ | refine gl_n rfl (o_buildS rfl rfl rfl rfl) ?_
      rintro _ _ ⟨b48, rfl, rfl⟩
      refine gl_n rfl (o_append (sz := 5) (news := entC e) rfl rfl pA rfl rfl (entC_one e) (by omega) (by unfold maxLen; omega)) ?_
      rintro _ _ ⟨a49, c49, rfl, rfl⟩
      rw [show acc.length + 1 = (acc ++ [e]).length by simp, show acc.flatMap entC ++ entC e = (acc ++ [e]).flatMap entC by simp]
      refine gl_v rfl (o_assign rfl) ?_
      refine gl_nil ?_
      refine ge_block ?_
      refine ge_then ?_
      refine g_region ?_
      refine gl_v rfl (o_move rfl) ?_
      refine gl_v rfl (o_addR ((i + 1 : Nat) : Int) (by rw [wr_i64 (by omega)]; omega) rfl rfl) ?_
      refine gl_v rfl (o_assign rfl) ?_
      refine gl_nil ?_
      refine ge_round (i + 1, acc ++ [e], a49, c49) ⟨by show i + 1 ≤ (splitB 10 l).length; omega, by show (acc ++ [e]).length ≤ i + 1; first | omega | (simp; omega), by rw [← hI]; exact (lines_some hps hrd).symm⟩ (by show (splitB 10 l).length - (i + 1) < (splitB 10 l).length - i; omega) (Keep.cons rfl (Keep.cons rfl (Keep.cons rfl (Keep.nil)))) (tO)
  ·
   replace hc2 := hs_ hc2
   obtain rfl : i = (splitB 10 l).length := by omega
   rw [List.drop_length] at hI
   have hI2 : (acc, (0 : Int), (0 : Int)) = linesS 0 (splitB 10 l) [] := hI
   rw [← hI2]
   refine g_exit ?_
   refine ge_then_exit ?_
   refine ge_then_exit ?_
   refine ge_block_exit ?_
   refine ge_then ?_
   refine g_seq ?_
   refine g_region ?_
   refine gl_v rfl (o_move rfl) ?_
   refine gl_v rfl (o_assign rfl) ?_
   refine gl_v rfl (o_assign rfl) ?_
   refine gl_v rfl (o_assign rfl) ?_
   refine gl_nil ?_
   refine ge_then ?_
   refine g_ret ?_
   refine ret3 (.inl rfl) rfl rfl rfl rfl [own (.slice a (acc).length c) 23 5 (acc).length ((acc).flatMap entC)] (⟨a, c, rfl, rfl⟩) (tO)

set_option maxRecDepth 8000 in
set_option maxHeartbeats 1000000 in
theorem rSame_spec (v v' : Value) (A A' : Assn) (es es' : List Ent) (hn : es.length ≤ 4000000000) [RdA v A es.length (es.flatMap entC)] [RdA v' A' es'.length (es'.flatMap entC)] : FnS Tryd.prog 21 [v, v'] [A, A'] (fun u Bs => u = .bool (decide (es = es')) ∧ Bs = [A, A']) := by
 refine fn_body Tryd.func21 rfl rfl rfl ?_
 intro W0 R
 simp only [List.zipIdx_cons, List.zipIdx_nil, List.map_cons, List.map_nil, Nat.zero_add, Nat.reduceAdd, List.cons_append, List.nil_append]
 refine g_seq ?_
 refine g_region ?_
 refine gl_v rfl (o_assign rfl) ?_
 refine gl_nil ?_
 refine ge_then ?_
 refine g_seq ?_
 refine g_seq ?_
 refine g_region ?_
 refine gl_v rfl (o_move rfl) ?_
 first | refine gl_v rfl (o_len rfl) ?_ | refine gl_v rfl (o_lenL rfl) ?_
 refine gl_v rfl (o_move rfl) ?_
 first | refine gl_v rfl (o_len rfl) ?_ | refine gl_v rfl (o_lenL rfl) ?_
 refine gl_v rfl (o_neq rfl rfl) ?_
 refine gl_nil ?_
 refine ge_then ?_
 refine g_cond rfl (fun hc1 => ?_) (fun hc1 => ?_)
 ·
  replace hc1 := hs_ hc1
  have hne : ¬ es = es' := fun e9 => by rw [e9] at hc1; omega
  refine g_seq ?_
  refine g_region ?_
  refine gl_v rfl (o_assign rfl) ?_
  refine gl_nil ?_
  refine ge_then ?_
  refine g_ret ?_
  refine ge_then_ret ?_
  refine ret1 (.inl rfl) rfl rfl [A, A'] (⟨by rw [decide_eq_false hne], rfl⟩) (tO)
 ·
  replace hc1 := hs_ hc1
  have hlen : es.length = es'.length := by omega
  refine g_skip ?_
  refine ge_then ?_
  refine g_seq ?_
  refine g_seq ?_
  refine g_region ?_
  refine gl_v rfl (o_assign rfl) ?_
  refine gl_nil ?_
  refine ge_then ?_
  refine g_block ?_
  refine g_loop (ι := Nat) (fun i => i ≤ es.length ∧ es.take i = es'.take i) (fun i => [(5, I64 i), (0, v), (1, v')]) (fun _ => A :: A' :: R) (fun i => es.length - i) 0 (⟨Nat.zero_le _, rfl⟩) (Keep.cons rfl (Keep.cons rfl (Keep.cons rfl (Keep.nil)))) (tO) ?_
  rintro i ⟨hi, hI⟩
  replace hi : i ≤ es.length := hi
  replace hI : es.take i = es'.take i := hI
  refine g_seq ?_
  refine g_seq ?_
  refine g_region ?_
  refine gl_v rfl (o_move rfl) ?_
  refine gl_v rfl (o_move rfl) ?_
  first | refine gl_v rfl (o_len rfl) ?_ | refine gl_v rfl (o_lenL rfl) ?_
  refine gl_v rfl (o_lss rfl rfl) ?_
  refine gl_nil ?_
  refine ge_then ?_
  refine g_cond rfl (fun hc2 => ?_) (fun hc2 => ?_)
  ·
   replace hc2 := hs_ hc2
   have hi1 : i < es.length := by omega
   obtain ⟨e, he⟩ : ∃ e, es[i]? = some e := ⟨_, List.getElem?_eq_getElem hi1⟩
   obtain ⟨e', he'⟩ : ∃ e', es'[i]? = some e' := ⟨_, List.getElem?_eq_getElem (by omega)⟩
   refine g_skip ?_
   refine ge_then ?_
   refine g_seq ?_
   refine g_block ?_
   refine g_seq ?_
   by_cases hee : e = e'
   ·
    refine g_draw [] [] [(0, .loc), (1, .loc), (2, .loc), (3, .loc), (4, .loc), (5, .loc), (6, .loc), (7, .loc), (8, .loc)] [] mixed (by kernel_rfl) ?_
    refine go_v rfl .none rfl (o_move rfl) ?_
    refine go_v rfl .none rfl (o_move rfl) ?_
    refine go_v rfl .none rfl (o_idxS rfl rfl hi1) ?_
    refine go_v rfl .none rfl (o_loadSA (vs := entC e) rfl (entF_take he) rfl) ?_
    refine go_v rfl .none rfl (o_move rfl) ?_
    refine go_v rfl .none rfl (o_move rfl) ?_
    refine go_v rfl .none rfl (o_idxS rfl rfl (show i < es'.length by omega)) ?_
    refine go_v rfl .none rfl (o_loadSA (vs := entC e') rfl (entF_take he') rfl) ?_
    refine go_v rfl .none rfl (o_is (c := false) (by show (!flatEq (entC e) (entC e')) = false; rw [flatEq_ent, decide_eq_true hee]; rfl) (o_neqA rfl rfl rfl rfl)) ?_
    refine go_nil ?_
    refine ge_then ?_
    refine g_cond_false rfl ?_
    refine g_skip ?_
    refine ge_block ?_
    refine ge_then ?_
    refine g_region ?_
    refine gl_v rfl (o_move rfl) ?_
    refine gl_v rfl (o_addR ((i + 1 : Nat) : Int) (by rw [wr_i64 (by omega)]; omega) rfl rfl) ?_
    refine gl_v rfl (o_assign rfl) ?_
    refine gl_nil ?_
    refine ge_round (i + 1) ⟨by show i + 1 ≤ es.length; omega, by show es.take (i + 1) = es'.take (i + 1); rw [List.take_add_one, List.take_add_one, he, he', hI, hee]⟩ (by show es.length - (i + 1) < es.length - i; omega) (Keep.cons rfl (Keep.cons rfl (Keep.cons rfl (Keep.nil)))) (tO)
   ·
    refine g_draw [] [] [(0, .loc), (1, .loc), (2, .loc), (3, .loc), (4, .loc), (5, .loc), (6, .loc), (7, .loc), (8, .loc)] [] mixed (by kernel_rfl) ?_
    refine go_v rfl .none rfl (o_move rfl) ?_
    refine go_v rfl .none rfl (o_move rfl) ?_
    refine go_v rfl .none rfl (o_idxS rfl rfl hi1) ?_
    refine go_v rfl .none rfl (o_loadSA (vs := entC e) rfl (entF_take he) rfl) ?_
    refine go_v rfl .none rfl (o_move rfl) ?_
    refine go_v rfl .none rfl (o_move rfl) ?_
    refine go_v rfl .none rfl (o_idxS rfl rfl (show i < es'.length by omega)) ?_
    refine go_v rfl .none rfl (o_loadSA (vs := entC e') rfl (entF_take he') rfl) ?_
    refine go_v rfl .none rfl (o_is (c := true) (by show (!flatEq (entC e) (entC e')) = true; rw [flatEq_ent, decide_eq_false hee]; rfl) (o_neqA rfl rfl rfl rfl)) ?_
    refine go_nil ?_
    refine ge_then ?_
    refine g_cond_true rfl ?_
    refine g_seq ?_
    refine g_region ?_
    refine gl_v rfl (o_assign rfl) ?_
    refine gl_nil ?_
    refine ge_then ?_
    refine g_ret ?_
    refine ge_block_ret ?_
    refine ge_then_ret ?_
    refine ge_then_ret ?_
    refine ge_block_ret ?_
    refine ge_then_ret ?_
    refine ret1 (.inl rfl) rfl rfl [A, A'] (⟨by rw [decide_eq_false (fun e9 => hee (by rw [e9, he'] at he; exact (Option.some.inj he).symm))], rfl⟩) (tO)
  ·
   replace hc2 := hs_ hc2
   obtain rfl : i = es.length := by omega
   have heq : es = es' := by rw [List.take_length, hlen, List.take_length] at hI; exact hI
   refine g_exit ?_
   refine ge_then_exit ?_
   refine ge_then_exit ?_
   refine ge_block_exit ?_
   refine ge_then ?_
   refine g_seq ?_
   refine g_region ?_
   refine gl_v rfl (o_assign rfl) ?_
   refine gl_nil ?_
   refine ge_then ?_
   refine g_ret ?_
   refine ret1 (.inl rfl) rfl rfl [A, A'] (⟨by rw [decide_eq_true heq], rfl⟩) (tO)

end Go.Proofs.YtcglaiacohkaeaaDoor.L
