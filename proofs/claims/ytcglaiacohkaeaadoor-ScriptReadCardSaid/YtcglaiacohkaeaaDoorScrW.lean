/-
  Script: a line's words, taken one by one; Read. Own work, printed in part by a program of its own.
-/
import Derived.Test.YtcglaiacohkaeaaDoorScrX
import Derived.Test.YtcglaiacohkaeaaDoorScrR
import Derived.Test.YtcglaiacohkaeaaDoorScrQ
import Derived.Test.YtcglaiacohkaeaaDoorNameW
import Derived.Test.YtcglaiacohkaeaaDoorRng
set_option linter.unusedSimpArgs false
set_option linter.unusedVariables false
set_option linter.unusedSectionVars false
namespace Go.Proofs.YtcglaiacohkaeaaDoor.L
open Go.L Go.L.Lx Go.L.Pa Go.L.Sc
def wrd (p : Nat) (ω : Om) : Assn := exA (ι := Option Addr × Nat) (fun _ => True) (fun x => [cel p 66 [.slice x.1 ω.1.length x.2, .bool ω.2], rdo x.1 x.2 ω.1.length (wsC ω.1)])
theorem wrd_close {p : Nat} {ω : Om} {As R : List Assn} (a : Option Addr) (c : Nat) (h : ∀ h, Sat As h → Sat (cel p 66 [.slice a ω.1.length c, .bool ω.2] :: rdo a c ω.1.length (wsC ω.1) :: R) h) : ∀ h, Sat As h → Sat (wrd p ω :: R) h := ex_close (ι := Option Addr × Nat) (φ := fun _ => True) (l := fun x => [cel p 66 [.slice x.1 ω.1.length x.2, .bool ω.2], rdo x.1 x.2 ω.1.length (wsC ω.1)]) (a, c) trivial h
theorem wrd_tl {p : Nat} {w : By} {ws : List By} {b : Bool} {R : List Assn} {a : Option Addr} {c : Nat} : ∀ h, Sat (cel p 66 [.slice (if c = 1 then a else a.map (fun x : Addr => x.add (1 * 1))) (ws.length + 1 - 1) (c - 1), .bool b] :: rdo a c (ws.length + 1) (wsC (w :: ws)) :: R) h → Sat (wrd p (ws, b) :: R) h := fun h s =>
  wrd_close (ω := (ws, b)) _ _ (fun h s => Sat.tail (fun h s => rdo_tail (sz := 1) (x := [S w]) (xs := wsC ws) rfl (fun e => by rw [List.eq_nil_of_length_eq_zero (show ws.length = 0 from e)]; rfl) h s) s) h s
theorem bv {a b : Bool} (h : a = b) : Value.bool a = Value.bool b := by rw [h]
theorem iv_of {a b : Int} (h : a = b) : I64 a = I64 b := by rw [h]
def small (ω : Om) : Prop := ∀ w ∈ ω.1, w.length ≤ 140737488355328
theorem small_take {ω : Om} (h : small ω) : (takeV ω).length ≤ 140737488355328 := by
  unfold takeV
  cases hw : ω.1 with
  | nil => exact Nat.zero_le _
  | cons w ws => exact h w (by rw [hw]; exact List.mem_cons_self)
theorem small_tail {ω : Om} (h : small ω) {b : Bool} : small (ω.1.tail, b) := fun w hw => h w (List.mem_of_mem_tail hw)
theorem small_num {lo hi : Int} {ω : Om} (h : small ω) : small (numS lo hi ω) := small_tail h
theorem small_name {ω : Om} (h : small ω) : small (nameS ω) := small_tail h
theorem split_wlen {c : UInt8} : ∀ (l : By), ∀ w ∈ splitB c l, w.length ≤ l.length
  | [], w, h => by rw [show w = [] by simpa [splitB] using h]; exact Nat.zero_le _
  | x :: l, w, h => by
    have ih := split_wlen (c := c) l
    obtain ⟨v, vs, hv⟩ := split_cons (c := c) (l := l)
    by_cases hx : x = c
    · subst hx
      rw [split_T] at h
      rcases List.mem_cons.1 h with rfl | h
      · exact Nat.zero_le _
      · exact Nat.le_succ_of_le (ih w h)
    · rw [split_F hx, hv] at h
      rcases List.mem_cons.1 h with rfl | h
      · have := ih v (by rw [hv]; exact List.mem_cons_self)
        show (x :: v).length ≤ (x :: l).length
        simp only [List.length_cons]; omega
      · exact Nat.le_succ_of_le (ih w (by rw [hv]; exact List.mem_cons_of_mem _ h))
def entC (e : Ent) : List Value := [I64 e.kind, I64 e.a, I64 e.b, S e.tag, I64 e.n]

set_option maxRecDepth 8000 in
set_option maxHeartbeats 1000000 in
theorem take_nil (p : Nat) (b : Bool) : FnS Tryd.prog 29 [ptr p 0] [wrd p ([], b)] (fun u Bs => u = S [] ∧ Bs = [wrd p ([], true)]) := by
 refine fn_body Tryd.func29 rfl rfl rfl ?_
 intro W0 R
 simp only [List.zipIdx_cons, List.zipIdx_nil, List.map_cons, List.map_nil, Nat.zero_add, Nat.reduceAdd, List.cons_append, List.nil_append]
 refine g_imp (fun h s => Sel.to (A := wrd p (([] : List By), b)) sE s) ?_
 refine g_open .head ?_
 rintro ⟨a, c⟩ -
 simp only [List.cons_append, List.nil_append]
 refine g_seq ?_
 refine g_region ?_
 refine gl_v rfl (o_assign rfl) ?_
 refine gl_nil ?_
 refine ge_then ?_
 refine g_seq ?_
 refine g_seq ?_
 refine g_region ?_
 refine gl_v rfl (o_move rfl) ?_
 refine gl_v rfl (o_nil rfl) ?_
 first | refine gl_v rfl (o_fldS rfl) ?_ | refine gl_v rfl (o_fld rfl) ?_
 first | refine gl_v rfl (o_load rfl rfl) ?_ | refine gl_v rfl (o_loadS rfl rfl) ?_ | refine gl_v rfl (o_loadC rfl) ?_
 first | refine gl_v rfl (o_len rfl) ?_ | refine gl_v rfl (o_lenL rfl) ?_
 refine gl_v rfl (o_is (c := true) (by rfl) (o_eql rfl rfl)) ?_
 refine gl_nil ?_
 refine ge_then ?_
 refine g_cond_true rfl ?_
 refine g_seq ?_
 refine g_region ?_
 refine gl_v rfl (o_move rfl) ?_
 refine gl_v rfl (o_nil rfl) ?_
 first | refine gl_v rfl (o_fldS rfl) ?_ | refine gl_v rfl (o_fld rfl) ?_
 first | refine gl_u (o_store rfl rfl rfl rfl) ?_ | refine gl_u (o_storeS rfl rfl rfl (by first | assumption | omega | simp)) ?_
 refine gl_nil ?_
 refine ge_then ?_
 refine g_seq ?_
 refine g_region ?_
 refine gl_v rfl (o_assign rfl) ?_
 refine gl_nil ?_
 refine ge_then ?_
 refine g_ret ?_
 refine ge_then_ret ?_
 refine ret1 (.inl rfl) rfl rfl [wrd p ([], true)] (⟨rfl, rfl⟩) (wrd_close (ω := (([] : List By), true)) a c (tO))

set_option maxRecDepth 8000 in
set_option maxHeartbeats 1000000 in
theorem take_cons (p : Nat) (w : By) (ws : List By) (b : Bool) : FnS Tryd.prog 29 [ptr p 0] [wrd p (w :: ws, b)] (fun u Bs => u = S w ∧ Bs = [wrd p (ws, b)]) := by
 refine fn_body Tryd.func29 rfl rfl rfl ?_
 intro W0 R
 simp only [List.zipIdx_cons, List.zipIdx_nil, List.map_cons, List.map_nil, Nat.zero_add, Nat.reduceAdd, List.cons_append, List.nil_append]
 refine g_imp (fun h s => Sel.to (A := wrd p (w :: ws, b)) sE s) ?_
 refine g_open .head ?_
 rintro ⟨a, c⟩ -
 simp only [List.cons_append, List.nil_append]
 refine g_seq ?_
 refine g_region ?_
 refine gl_v rfl (o_assign rfl) ?_
 refine gl_nil ?_
 refine ge_then ?_
 refine g_seq ?_
 refine g_seq ?_
 refine g_region ?_
 refine gl_v rfl (o_move rfl) ?_
 refine gl_v rfl (o_nil rfl) ?_
 first | refine gl_v rfl (o_fldS rfl) ?_ | refine gl_v rfl (o_fld rfl) ?_
 first | refine gl_v rfl (o_load rfl rfl) ?_ | refine gl_v rfl (o_loadS rfl rfl) ?_ | refine gl_v rfl (o_loadC rfl) ?_
 first | refine gl_v rfl (o_len rfl) ?_ | refine gl_v rfl (o_lenL rfl) ?_
 refine gl_v rfl (o_is (c := false) (by exact decide_eq_false (by simp; omega)) (o_eql rfl rfl)) ?_
 refine gl_nil ?_
 refine ge_then ?_
 refine g_cond_false rfl ?_
 refine g_skip ?_
 refine ge_then ?_
 refine g_seq ?_
 refine g_region ?_
 refine gl_v rfl (o_move rfl) ?_
 refine gl_v rfl (o_nil rfl) ?_
 first | refine gl_v rfl (o_fldS rfl) ?_ | refine gl_v rfl (o_fld rfl) ?_
 first | refine gl_v rfl (o_load rfl rfl) ?_ | refine gl_v rfl (o_loadS rfl rfl) ?_ | refine gl_v rfl (o_loadC rfl) ?_
 refine gl_v rfl (o_idxS (j := 0) rfl rfl (show 0 < (w :: ws).length from Nat.succ_pos _)) ?_
 refine gl_v rfl (o_loadS rfl (show (wsC (w :: ws))[0]? = some (S w) from rfl)) ?_
 refine gl_v rfl (o_assign rfl) ?_
 refine gl_nil ?_
 refine ge_then ?_
 refine g_seq ?_
 refine g_region ?_
 refine gl_v rfl (o_move rfl) ?_
 refine gl_v rfl (o_move rfl) ?_
 refine gl_v rfl (o_nil rfl) ?_
 first | refine gl_v rfl (o_fldS rfl) ?_ | refine gl_v rfl (o_fld rfl) ?_
 first | refine gl_v rfl (o_load rfl rfl) ?_ | refine gl_v rfl (o_loadS rfl rfl) ?_ | refine gl_v rfl (o_loadC rfl) ?_
 refine gl_v rfl (o_slFrom (i := 1) rfl rfl (show 1 ≤ (w :: ws).length from Nat.succ_le_succ (Nat.zero_le _))) ?_
 refine gl_v rfl (o_nil rfl) ?_
 first | refine gl_v rfl (o_fldS rfl) ?_ | refine gl_v rfl (o_fld rfl) ?_
 first | refine gl_u (o_store rfl rfl rfl rfl) ?_ | refine gl_u (o_storeS rfl rfl rfl (by first | assumption | omega | simp)) ?_
 refine gl_nil ?_
 refine ge_then ?_
 refine g_seq ?_
 refine g_region ?_
 refine gl_v rfl (o_move rfl) ?_
 refine gl_v rfl (o_assign rfl) ?_
 refine gl_nil ?_
 refine ge_then ?_
 refine g_ret ?_
 refine ret1 (.inl rfl) rfl rfl [wrd p (ws, b)] (⟨rfl, rfl⟩) (fun h s => wrd_tl h ((tO) h s))

theorem take_spec (p : Nat) (ω : Om) : FnS Tryd.prog 29 [ptr p 0] [wrd p ω] (fun u Bs => u = S (takeV ω) ∧ Bs = [wrd p (takeS ω)]) := by
  obtain ⟨ws, b⟩ := ω
  cases ws with
  | nil => rw [show takeS (([] : List By), b) = ([], true) by unfold takeS; simp]; exact take_nil p b
  | cons w ws => rw [show takeS (w :: ws, b) = (ws, b) by unfold takeS; simp]; exact take_cons p w ws b

set_option maxRecDepth 8000 in
set_option maxHeartbeats 1000000 in
theorem number_bad {W : World} (hG : Gok W) (p : Nat) (ω : Om) (lo hi : Int) (hb : -1000000000000000000 < lo ∧ hi < 1000000000000000000) (hw : (takeV ω).length ≤ 140737488355328) (h : ∀ n, Lib.atoiAll (takeV ω) ≠ .ok n) : FnS Tryd.prog 28 [ptr p 0, I64 lo, I64 hi] [wrd p ω, base W] (fun u Bs => u = I64 (numR lo hi ω) ∧ Bs = [wrd p (numS lo hi ω), base W]) := by
 refine fn_body Tryd.func28 rfl rfl rfl ?_
 intro W0 R
 simp only [List.zipIdx_cons, List.zipIdx_nil, List.map_cons, List.map_nil, Nat.zero_add, Nat.reduceAdd, List.cons_append, List.nil_append]
 have hv : numV lo hi (takeV ω) = none := by
   rw [numV_atoi hb]
   cases ha : Lib.atoiAll (takeV ω) with
   | ok n => exact absurd ha (h n)
   | «syntax» => rfl
   | range => rfl
 refine g_seq ?_
 refine g_region ?_
 refine gl_v rfl (o_assign rfl) ?_
 refine gl_nil ?_
 refine ge_then ?_
 refine g_seq ?_
 refine g_region ?_
 refine gl_v rfl (o_move rfl) ?_
 refine gl_c rfl (o_call rfl (take_spec p ω) pA) ?_
 rintro _ R ⟨_, ⟨rfl, rfl⟩, rfl⟩
 try simp only [List.cons_append, List.nil_append]
 refine gl_v rfl (o_assign rfl) ?_
 refine gl_nil ?_
 refine ge_then ?_
 refine g_seq ?_
 refine g_region ?_
 refine gl_v rfl (o_move rfl) ?_
 refine gl_c rfl (o_call rfl (Atoi_bad hG (takeV ω) (by omega) h) pA) ?_
 rintro _ R ⟨_, ⟨n, t, q, rfl, rfl⟩, rfl⟩
 try simp only [List.cons_append, List.nil_append]
 refine gl_v rfl (o_move rfl) ?_
 refine gl_v rfl (o_extract rfl rfl) ?_
 refine gl_v rfl (o_extract rfl rfl) ?_
 refine gl_v rfl (o_assign rfl) ?_
 refine gl_v rfl (o_assign rfl) ?_
 refine gl_nil ?_
 refine ge_then ?_
 refine g_seq ?_
 refine g_seq ?_
 refine g_region ?_
 refine gl_v rfl (o_move rfl) ?_
 refine gl_v rfl (o_neqIn rfl) ?_
 refine gl_v rfl (o_move rfl) ?_
 refine gl_gF rfl rfl rfl rfl ?_
 refine gl_gF rfl rfl rfl rfl ?_
 refine gl_gF rfl rfl rfl rfl ?_
 refine gl_v rfl (o_pickT rfl rfl rfl) ?_
 refine gl_v rfl (o_move rfl) ?_
 refine gl_gF rfl rfl rfl rfl ?_
 refine gl_gF rfl rfl rfl rfl ?_
 refine gl_gF rfl rfl rfl rfl ?_
 refine gl_v rfl (o_pickT rfl rfl rfl) ?_
 refine gl_v rfl (o_move rfl) ?_
 refine gl_gF rfl rfl rfl rfl ?_
 refine gl_gF rfl rfl rfl rfl ?_
 refine gl_gF rfl rfl rfl rfl ?_
 refine gl_gF rfl rfl rfl rfl ?_
 refine gl_v rfl (o_pickT rfl rfl rfl) ?_
 refine gl_nil ?_
 refine ge_then ?_
 refine g_cond_true rfl ?_
 refine g_seq ?_
 refine g_imp (fun h s => Sel.to (A := wrd p (takeS ω)) sE s) ?_
 refine g_open .head ?_
 rintro ⟨a, c⟩ -
 simp only [List.cons_append, List.nil_append]
 refine g_region ?_
 refine gl_v rfl (o_move rfl) ?_
 refine gl_v rfl (o_nil rfl) ?_
 first | refine gl_v rfl (o_fldS rfl) ?_ | refine gl_v rfl (o_fld rfl) ?_
 first | refine gl_u (o_store rfl rfl rfl rfl) ?_ | refine gl_u (o_storeS rfl rfl rfl (by first | assumption | omega | simp)) ?_
 refine gl_nil ?_
 refine ge_then ?_
 refine g_seq ?_
 refine g_region ?_
 refine gl_v rfl (o_assign rfl) ?_
 refine gl_nil ?_
 refine ge_then ?_
 refine g_ret ?_
 refine ge_then_ret ?_
 refine ret1 (.inl rfl) rfl rfl [wrd p (numS lo hi ω), base W] (⟨iv_of (by unfold numR; rw [hv]; rfl), rfl⟩) (by rw [show numS lo hi ω = ((takeS ω).1, true) by unfold numS; rw [hv]; simp]; exact wrd_close (ω := ((takeS ω).1, true)) a c (tO))

set_option maxRecDepth 8000 in
set_option maxHeartbeats 1000000 in
theorem number_ok {W : World} (hG : Gok W) (p : Nat) (ω : Om) (lo hi : Int) (hb : -1000000000000000000 < lo ∧ hi < 1000000000000000000) (hw : (takeV ω).length ≤ 140737488355328) (n : Int) (h : Lib.atoiAll (takeV ω) = .ok n) : FnS Tryd.prog 28 [ptr p 0, I64 lo, I64 hi] [wrd p ω, base W] (fun u Bs => u = I64 (numR lo hi ω) ∧ Bs = [wrd p (numS lo hi ω), base W]) := by
 refine fn_body Tryd.func28 rfl rfl rfl ?_
 intro W0 R
 simp only [List.zipIdx_cons, List.zipIdx_nil, List.map_cons, List.map_nil, Nat.zero_add, Nat.reduceAdd, List.cons_append, List.nil_append]
 refine g_seq ?_
 refine g_region ?_
 refine gl_v rfl (o_assign rfl) ?_
 refine gl_nil ?_
 refine ge_then ?_
 refine g_seq ?_
 refine g_region ?_
 refine gl_v rfl (o_move rfl) ?_
 refine gl_c rfl (o_call rfl (take_spec p ω) pA) ?_
 rintro _ R ⟨_, ⟨rfl, rfl⟩, rfl⟩
 try simp only [List.cons_append, List.nil_append]
 refine gl_v rfl (o_assign rfl) ?_
 refine gl_nil ?_
 refine ge_then ?_
 refine g_seq ?_
 refine g_region ?_
 refine gl_v rfl (o_move rfl) ?_
 refine gl_c rfl (o_call rfl (Atoi_ok (takeV ω) (by omega) n h) pA) ?_
 rintro _ R ⟨_, ⟨rfl, rfl⟩, rfl⟩
 try simp only [List.cons_append, List.nil_append]
 refine gl_v rfl (o_move rfl) ?_
 refine gl_v rfl (o_extract rfl rfl) ?_
 refine gl_v rfl (o_extract rfl rfl) ?_
 refine gl_v rfl (o_assign rfl) ?_
 refine gl_v rfl (o_assign rfl) ?_
 refine gl_nil ?_
 refine ge_then ?_
 refine g_seq ?_
 refine g_seq ?_
 refine g_region ?_
 refine gl_v rfl (o_move rfl) ?_
 refine gl_v rfl (o_neqnI rfl) ?_
 refine gl_v rfl (o_move rfl) ?_
 refine gl_gT rfl rfl rfl ?_
 refine gl_v rfl (o_move rfl) ?_
 refine gl_gT rfl rfl rfl ?_
 refine gl_v rfl (o_move rfl) ?_
 refine gl_gT rfl rfl rfl ?_
 refine gl_v rfl (o_lss rfl rfl) ?_
 refine gl_v rfl (o_pickF rfl rfl rfl) ?_
 refine gl_v rfl (o_move rfl) ?_
 refine gl_g rfl rfl (fun hc1 => ?_) (fun hc1 => ?_) rfl
 ·
  have hc1' := hc1
  replace hc1' := hs_ hc1'
  refine gl_v rfl (o_move rfl) ?_
  refine gl_gT rfl rfl hc1 ?_
  refine gl_v rfl (o_move rfl) ?_
  refine gl_gT rfl rfl hc1 ?_
  refine gl_v rfl (o_gtr rfl rfl) ?_
  refine gl_v rfl (o_pickF hc1 rfl rfl) ?_
  refine gl_v rfl (o_move rfl) ?_
  refine gl_g rfl rfl (fun hc2 => ?_) (fun hc2 => ?_) rfl
  ·
   have hc2' := hc2
   replace hc2' := hs_ hc2'
   refine gl_v rfl (o_move rfl) ?_
   refine gl_gT rfl rfl hc2 ?_
   refine gl_c rfl (o_call rfl (Itoa_spec hG n (by omega) (by omega)) pA) ?_
   rintro _ R ⟨_, ⟨rfl, rfl⟩, rfl⟩
   try simp only [List.cons_append, List.nil_append]
   refine gl_gT rfl rfl hc2 ?_
   refine gl_v rfl (o_move rfl) ?_
   refine gl_gT rfl rfl hc2 ?_
   refine gl_v rfl (o_neqs rfl rfl) ?_
   refine gl_v rfl (o_pickF hc2 rfl rfl) ?_
   refine gl_nil ?_
   refine ge_then ?_
   refine g_cond rfl (fun hc3 => ?_) (fun hc3 => ?_)
   ·
    replace hc3 := hs_ hc3
    refine g_seq ?_
    refine g_imp (fun h s => Sel.to (A := wrd p (takeS ω)) sE s) ?_
    refine g_open .head ?_
    rintro ⟨a, c⟩ -
    simp only [List.cons_append, List.nil_append]
    refine g_region ?_
    refine gl_v rfl (o_move rfl) ?_
    refine gl_v rfl (o_nil rfl) ?_
    first | refine gl_v rfl (o_fldS rfl) ?_ | refine gl_v rfl (o_fld rfl) ?_
    first | refine gl_u (o_store rfl rfl rfl rfl) ?_ | refine gl_u (o_storeS rfl rfl rfl (by first | assumption | omega | simp)) ?_
    refine gl_nil ?_
    refine ge_then ?_
    refine g_seq ?_
    refine g_region ?_
    refine gl_v rfl (o_assign rfl) ?_
    refine gl_nil ?_
    refine ge_then ?_
    refine g_ret ?_
    refine ge_then_ret ?_
    refine ret1 (.inl rfl) rfl rfl [wrd p (numS lo hi ω), base W] (⟨iv_of (by unfold numR; rw [show numV lo hi (takeV ω) = none by rw [numV_atoi hb, h]; exact if_neg (fun h9 => by first | omega | simp_all)]; rfl), rfl⟩) (by rw [show numS lo hi ω = ((takeS ω).1, true) by unfold numS; rw [show numV lo hi (takeV ω) = none by rw [numV_atoi hb, h]; exact if_neg (fun h9 => by first | omega | simp_all)]; simp]; exact wrd_close (ω := ((takeS ω).1, true)) a c (tO))
   ·
    replace hc3 := hs_ hc3
    refine g_skip ?_
    refine ge_then ?_
    refine g_seq ?_
    refine g_region ?_
    refine gl_v rfl (o_move rfl) ?_
    refine gl_v rfl (o_assign rfl) ?_
    refine gl_nil ?_
    refine ge_then ?_
    refine g_ret ?_
    refine ret1 (.inl rfl) rfl rfl [wrd p (numS lo hi ω), base W] (⟨iv_of (by unfold numR; rw [show numV lo hi (takeV ω) = some n by rw [numV_atoi hb, h]; exact if_pos ⟨by omega, by omega, by simp_all⟩]; rfl), rfl⟩) (by rw [show numS lo hi ω = takeS ω by unfold numS; rw [show numV lo hi (takeV ω) = some n by rw [numV_atoi hb, h]; exact if_pos ⟨by omega, by omega, by simp_all⟩]; simp]; exact (tO))
  ·
   have hc2' := hc2
   replace hc2' := hs_ hc2'
   simp only [putO]
   refine gl_gF rfl rfl hc2 rfl ?_
   refine gl_gF rfl rfl hc2 rfl ?_
   refine gl_gF rfl rfl hc2 rfl ?_
   refine gl_v rfl (o_pickT hc2 rfl rfl) ?_
   refine gl_nil ?_
   refine ge_then ?_
   refine g_cond_true rfl ?_
   refine g_seq ?_
   refine g_imp (fun h s => Sel.to (A := wrd p (takeS ω)) sE s) ?_
   refine g_open .head ?_
   rintro ⟨a, c⟩ -
   simp only [List.cons_append, List.nil_append]
   refine g_region ?_
   refine gl_v rfl (o_move rfl) ?_
   refine gl_v rfl (o_nil rfl) ?_
   first | refine gl_v rfl (o_fldS rfl) ?_ | refine gl_v rfl (o_fld rfl) ?_
   first | refine gl_u (o_store rfl rfl rfl rfl) ?_ | refine gl_u (o_storeS rfl rfl rfl (by first | assumption | omega | simp)) ?_
   refine gl_nil ?_
   refine ge_then ?_
   refine g_seq ?_
   refine g_region ?_
   refine gl_v rfl (o_assign rfl) ?_
   refine gl_nil ?_
   refine ge_then ?_
   refine g_ret ?_
   refine ge_then_ret ?_
   refine ret1 (.inl rfl) rfl rfl [wrd p (numS lo hi ω), base W] (⟨iv_of (by unfold numR; rw [show numV lo hi (takeV ω) = none by rw [numV_atoi hb, h]; exact if_neg (fun h9 => by first | omega | simp_all)]; rfl), rfl⟩) (by rw [show numS lo hi ω = ((takeS ω).1, true) by unfold numS; rw [show numV lo hi (takeV ω) = none by rw [numV_atoi hb, h]; exact if_neg (fun h9 => by first | omega | simp_all)]; simp]; exact wrd_close (ω := ((takeS ω).1, true)) a c (tO))
 ·
  have hc1' := hc1
  replace hc1' := hs_ hc1'
  simp only [putO]
  refine gl_gF rfl rfl hc1 rfl ?_
  refine gl_gF rfl rfl hc1 rfl ?_
  refine gl_v rfl (o_pickT hc1 rfl rfl) ?_
  refine gl_v rfl (o_move rfl) ?_
  refine gl_gF rfl rfl rfl rfl ?_
  refine gl_gF rfl rfl rfl rfl ?_
  refine gl_gF rfl rfl rfl rfl ?_
  refine gl_gF rfl rfl rfl rfl ?_
  refine gl_v rfl (o_pickT rfl rfl rfl) ?_
  refine gl_nil ?_
  refine ge_then ?_
  refine g_cond_true rfl ?_
  refine g_seq ?_
  refine g_imp (fun h s => Sel.to (A := wrd p (takeS ω)) sE s) ?_
  refine g_open .head ?_
  rintro ⟨a, c⟩ -
  simp only [List.cons_append, List.nil_append]
  refine g_region ?_
  refine gl_v rfl (o_move rfl) ?_
  refine gl_v rfl (o_nil rfl) ?_
  first | refine gl_v rfl (o_fldS rfl) ?_ | refine gl_v rfl (o_fld rfl) ?_
  first | refine gl_u (o_store rfl rfl rfl rfl) ?_ | refine gl_u (o_storeS rfl rfl rfl (by first | assumption | omega | simp)) ?_
  refine gl_nil ?_
  refine ge_then ?_
  refine g_seq ?_
  refine g_region ?_
  refine gl_v rfl (o_assign rfl) ?_
  refine gl_nil ?_
  refine ge_then ?_
  refine g_ret ?_
  refine ge_then_ret ?_
  refine ret1 (.inl rfl) rfl rfl [wrd p (numS lo hi ω), base W] (⟨iv_of (by unfold numR; rw [show numV lo hi (takeV ω) = none by rw [numV_atoi hb, h]; exact if_neg (fun h9 => by first | omega | simp_all)]; rfl), rfl⟩) (by rw [show numS lo hi ω = ((takeS ω).1, true) by unfold numS; rw [show numV lo hi (takeV ω) = none by rw [numV_atoi hb, h]; exact if_neg (fun h9 => by first | omega | simp_all)]; simp]; exact wrd_close (ω := ((takeS ω).1, true)) a c (tO))

theorem number_spec {W : World} (hG : Gok W) (p : Nat) (ω : Om) (lo hi : Int) (hb : -1000000000000000000 < lo ∧ hi < 1000000000000000000) (hw : (takeV ω).length ≤ 140737488355328) : FnS Tryd.prog 28 [ptr p 0, I64 lo, I64 hi] [wrd p ω, base W] (fun u Bs => u = I64 (numR lo hi ω) ∧ Bs = [wrd p (numS lo hi ω), base W]) := by
  cases ha : Lib.atoiAll (takeV ω) with
  | ok n => exact number_ok hG p ω lo hi hb hw n ha
  | «syntax» => exact number_bad hG p ω lo hi hb hw (fun n h => by rw [ha] at h; cases h)
  | range => exact number_bad hG p ω lo hi hb hw (fun n h => by rw [ha] at h; cases h)

set_option maxRecDepth 8000 in
set_option maxHeartbeats 1000000 in
theorem name0_spec (p : Nat) (ω : Om) (hw : (takeV ω).length ≤ 140737488355328) : FnS Tryd.prog 30 [ptr p 0, .slice none 0 0] [wrd p ω] (fun u Bs => u = S (takeV ω) ∧ Bs = [wrd p (nameS ω)]) := by
 refine fn_body Tryd.func30 rfl rfl rfl ?_
 intro W0 R
 simp only [List.zipIdx_cons, List.zipIdx_nil, List.map_cons, List.map_nil, Nat.zero_add, Nat.reduceAdd, List.cons_append, List.nil_append]
 refine g_seq ?_
 refine g_region ?_
 refine gl_v rfl (o_assign rfl) ?_
 refine gl_nil ?_
 refine ge_then ?_
 refine g_seq ?_
 refine g_region ?_
 refine gl_v rfl (o_move rfl) ?_
 refine gl_c rfl (o_call rfl (take_spec p ω) pA) ?_
 rintro _ R ⟨_, ⟨rfl, rfl⟩, rfl⟩
 try simp only [List.cons_append, List.nil_append]
 refine gl_v rfl (o_assign rfl) ?_
 refine gl_nil ?_
 refine ge_then ?_
 refine g_seq ?_
 refine g_seq ?_
 refine g_region ?_
 refine gl_v rfl (o_move rfl) ?_
 refine gl_v rfl (o_lenL rfl) ?_
 refine gl_v rfl (o_move rfl) ?_
 refine gl_nil ?_
 refine ge_then ?_
 refine g_block ?_
 refine g_loop (ι := Unit) (fun _ => True) (fun _ => [(12, I64 0), (11, I64 0), (10, .slice none 0 0), (5, S (takeV ω)), (0, ptr p 0)]) (fun _ => wrd p (takeS ω) :: R) (fun _ => 0) () (trivial) (Keep.cons rfl (Keep.cons rfl (Keep.cons rfl (Keep.cons rfl (Keep.cons rfl (Keep.nil)))))) (tO) ?_
 rintro _ -
 refine g_seq ?_
 refine g_region ?_
 refine gl_v rfl (o_is (c := false) (by rfl) (o_lss rfl rfl)) ?_
 refine gl_nil ?_
 refine ge_then ?_
 refine g_seq ?_
 refine g_cond_false rfl ?_
 refine g_exit ?_
 refine ge_then_exit ?_
 refine ge_then_exit ?_
 refine ge_block_exit ?_
 refine ge_then ?_
 refine g_seq ?_
 refine g_seq ?_
 refine g_region ?_
 refine gl_v rfl (o_move rfl) ?_
 refine gl_c rfl (o_call rfl (Name_spec (takeV ω) (by omega)) pA) ?_
 rintro _ R ⟨_, ⟨rfl, rfl⟩, rfl⟩
 try simp only [List.cons_append, List.nil_append]
 refine gl_v rfl (o_not rfl) ?_
 refine gl_nil ?_
 refine ge_then ?_
 refine g_cond rfl (fun hc1 => ?_) (fun hc1 => ?_)
 ·
  replace hc1 := hs_ hc1
  have hn : isName (takeV ω) = false := by simpa using hc1
  refine g_imp (fun h s => Sel.to (A := wrd p (takeS ω)) sE s) ?_
  refine g_open .head ?_
  rintro ⟨a, c⟩ -
  simp only [List.cons_append, List.nil_append]
  refine g_region ?_
  refine gl_v rfl (o_move rfl) ?_
  refine gl_v rfl (o_nil rfl) ?_
  first | refine gl_v rfl (o_fldS rfl) ?_ | refine gl_v rfl (o_fld rfl) ?_
  first | refine gl_u (o_store rfl rfl rfl rfl) ?_ | refine gl_u (o_storeS rfl rfl rfl (by first | assumption | omega | simp)) ?_
  refine gl_nil ?_
  refine ge_then ?_
  refine g_seq ?_
  refine g_region ?_
  refine gl_v rfl (o_move rfl) ?_
  refine gl_v rfl (o_assign rfl) ?_
  refine gl_nil ?_
  refine ge_then ?_
  refine g_ret ?_
  refine ret1 (.inl rfl) rfl rfl [wrd p (nameS ω)] (⟨rfl, rfl⟩) (by rw [show nameS ω = ((takeS ω).1, true) by unfold nameS; rw [hn]; simp]; exact wrd_close (ω := ((takeS ω).1, true)) a c (tO))
 ·
  replace hc1 := hs_ hc1
  have hn : isName (takeV ω) = true := by simpa using hc1
  refine g_skip ?_
  refine ge_then ?_
  refine g_seq ?_
  refine g_region ?_
  refine gl_v rfl (o_move rfl) ?_
  refine gl_v rfl (o_assign rfl) ?_
  refine gl_nil ?_
  refine ge_then ?_
  refine g_ret ?_
  refine ret1 (.inl rfl) rfl rfl [wrd p (nameS ω)] (⟨rfl, rfl⟩) (by rw [show nameS ω = takeS ω by unfold nameS; rw [hn]; simp]; exact (tO))

set_option maxRecDepth 8000 in
set_option maxHeartbeats 1000000 in
theorem done_t (p : Nat) (ws : List By) : FnS Tryd.prog 31 [ptr p 0] [wrd p (ws, true)] (fun u Bs => u = .bool false ∧ Bs = [wrd p (ws, true)]) := by
 refine fn_body Tryd.func31 rfl rfl rfl ?_
 intro W0 R
 simp only [List.zipIdx_cons, List.zipIdx_nil, List.map_cons, List.map_nil, Nat.zero_add, Nat.reduceAdd, List.cons_append, List.nil_append]
 refine g_imp (fun h s => Sel.to (A := wrd p (ws, true)) sE s) ?_
 refine g_open .head ?_
 rintro ⟨a, c⟩ -
 simp only [List.cons_append, List.nil_append]
 refine g_seq ?_
 refine g_region ?_
 refine gl_v rfl (o_assign rfl) ?_
 refine gl_nil ?_
 refine ge_then ?_
 refine g_seq ?_
 refine g_region ?_
 refine gl_v rfl (o_move rfl) ?_
 refine gl_v rfl (o_nil rfl) ?_
 first | refine gl_v rfl (o_fldS rfl) ?_ | refine gl_v rfl (o_fld rfl) ?_
 refine gl_v rfl (o_is (c := true) (by rfl) (o_load rfl rfl)) ?_
 refine gl_v rfl (o_is (c := false) (by rfl) (o_not rfl)) ?_
 refine gl_v rfl (o_move rfl) ?_
 refine gl_gF rfl rfl rfl rfl ?_
 refine gl_gF rfl rfl rfl rfl ?_
 refine gl_gF rfl rfl rfl rfl ?_
 refine gl_gF rfl rfl rfl rfl ?_
 refine gl_gF rfl rfl rfl rfl ?_
 refine gl_gF rfl rfl rfl rfl ?_
 refine gl_v rfl (o_pickF rfl rfl rfl) ?_
 refine gl_v rfl (o_assign rfl) ?_
 refine gl_nil ?_
 refine ge_then ?_
 refine g_ret ?_
 refine ret1 (.inl rfl) rfl rfl [wrd p (ws, true)] (⟨rfl, rfl⟩) (wrd_close (ω := (ws, true)) a c (tO))

set_option maxRecDepth 8000 in
set_option maxHeartbeats 1000000 in
theorem done_f (p : Nat) (ws : List By) : FnS Tryd.prog 31 [ptr p 0] [wrd p (ws, false)] (fun u Bs => u = .bool (decide (ws = [])) ∧ Bs = [wrd p (ws, false)]) := by
 refine fn_body Tryd.func31 rfl rfl rfl ?_
 intro W0 R
 simp only [List.zipIdx_cons, List.zipIdx_nil, List.map_cons, List.map_nil, Nat.zero_add, Nat.reduceAdd, List.cons_append, List.nil_append]
 refine g_imp (fun h s => Sel.to (A := wrd p (ws, false)) sE s) ?_
 refine g_open .head ?_
 rintro ⟨a, c⟩ -
 simp only [List.cons_append, List.nil_append]
 refine g_seq ?_
 refine g_region ?_
 refine gl_v rfl (o_assign rfl) ?_
 refine gl_nil ?_
 refine ge_then ?_
 refine g_seq ?_
 refine g_region ?_
 refine gl_v rfl (o_move rfl) ?_
 refine gl_v rfl (o_nil rfl) ?_
 first | refine gl_v rfl (o_fldS rfl) ?_ | refine gl_v rfl (o_fld rfl) ?_
 refine gl_v rfl (o_is (c := false) (by rfl) (o_load rfl rfl)) ?_
 refine gl_v rfl (o_is (c := true) (by rfl) (o_not rfl)) ?_
 refine gl_v rfl (o_move rfl) ?_
 refine gl_gT rfl rfl rfl ?_
 refine gl_v rfl (o_move rfl) ?_
 refine gl_gT rfl rfl rfl ?_
 refine gl_v rfl (o_nil rfl) ?_
 refine gl_gT rfl rfl rfl ?_
 first | refine gl_v rfl (o_fldS rfl) ?_ | refine gl_v rfl (o_fld rfl) ?_
 refine gl_gT rfl rfl rfl ?_
 first | refine gl_v rfl (o_load rfl rfl) ?_ | refine gl_v rfl (o_loadS rfl rfl) ?_ | refine gl_v rfl (o_loadC rfl) ?_
 refine gl_gT rfl rfl rfl ?_
 first | refine gl_v rfl (o_len rfl) ?_ | refine gl_v rfl (o_lenL rfl) ?_
 refine gl_gT rfl rfl rfl ?_
 refine gl_v rfl (o_eql rfl rfl) ?_
 refine gl_v rfl (o_pickT rfl rfl rfl) ?_
 refine gl_v rfl (o_assign rfl) ?_
 refine gl_nil ?_
 refine ge_then ?_
 refine g_ret ?_
 refine ret1 (.inl rfl) rfl rfl [wrd p (ws, false)] (⟨bv (by rw [Bool.eq_iff_iff]; simp only [decide_eq_true_eq]; exact ⟨fun h => List.eq_nil_of_length_eq_zero (by omega), fun h => by rw [h]; rfl⟩), rfl⟩) (wrd_close (ω := (ws, false)) a c (tO))

theorem done_spec (p : Nat) (ω : Om) : FnS Tryd.prog 31 [ptr p 0] [wrd p ω] (fun u Bs => u = .bool (doneB ω) ∧ Bs = [wrd p ω]) := by
  obtain ⟨ws, b⟩ := ω
  cases b with
  | true => exact done_t p ws
  | false => exact done_f p ws

set_option maxRecDepth 8000 in
set_option maxHeartbeats 1000000 in
theorem read1_spec {W : World} (hG : Gok W) (b4 b10 : Nat) (ω : Om) (hs : small ω) : FnS Tryd.prog 27 [ptr b4 0] [cel b4 62 [ptr b10 0], wrd b10 ω, base W] (fun u Bs => u = I64 (numR 0 65535 ω) ∧ Bs = [cel b4 62 [ptr b10 0], wrd b10 (numS 0 65535 ω), base W]) := by
 refine fn_body Tryd.func27 rfl rfl rfl ?_
 intro W0 R
 simp only [List.zipIdx_cons, List.zipIdx_nil, List.map_cons, List.map_nil, Nat.zero_add, Nat.reduceAdd, List.cons_append, List.nil_append]
 refine g_seq ?_
 refine g_region ?_
 refine gl_v rfl (o_assign rfl) ?_
 refine gl_nil ?_
 refine ge_then ?_
 refine g_seq ?_
 refine g_region ?_
 first | refine gl_v rfl (o_load rfl rfl) ?_ | refine gl_v rfl (o_loadS rfl rfl) ?_ | refine gl_v rfl (o_loadC rfl) ?_
 refine gl_c rfl (o_call rfl (number_spec hG b10 ω 0 65535 (by omega) (small_take hs)) pA) ?_
 rintro _ R ⟨_, ⟨rfl, rfl⟩, rfl⟩
 try simp only [List.cons_append, List.nil_append]
 refine gl_v rfl (o_assign rfl) ?_
 refine gl_nil ?_
 refine ge_then ?_
 refine g_ret ?_
 refine ret1 (.inl rfl) rfl rfl [cel b4 62 [ptr b10 0], wrd b10 (numS 0 65535 ω), base W] (⟨rfl, rfl⟩) (tO)

end Go.Proofs.YtcglaiacohkaeaaDoor.L
