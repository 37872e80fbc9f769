/-
  Parse: the reader of tokens; what may not stand there ends in a panic. Own work, printed in part by a program of its own.
-/
import Derived.Test.YtgmdlhlmffdbhaaGreatDoorLexW
import Derived.Test.YtgmdlhlmffdbhaaGreatDoorParP
import Derived.Test.YtgmdlhlmffdbhaaGreatDoorDef
import Derived.Test.YtgmdlhlmffdbhaaGreatDoorRng
set_option linter.unusedSimpArgs false
set_option linter.unusedVariables false
set_option linter.unusedSectionVars false
namespace Go.Proofs.YtgmdlhlmffdbhaaGreatDoor.L
open Go.L Go.L.Lx Go.L.Pg Go.L.Pa
abbrev fltC (b : Nat) : List PanicEntry := [{ v := errV b, recovered := false }]
def pxP {α : Type} (p : PR α) (n : Nat) : PX := fun ch Bs => ∃ r b, p = .bad r ∧ ch = fltC b ∧ Bs = [errM b (fltOf n r)]
def rdr (p : Nat) (T : List Tk) (n : Nat) : Assn := exA (ι := Option Addr × Nat) (fun _ => True) (fun x => [cel p 69 [.slice x.1 T.length x.2, I64 n], rdo x.1 x.2 T.length (T.flatMap tkC)])
theorem rdr_close {p : Nat} {T : List Tk} {n : Nat} {As R : List Assn} (a : Option Addr) (c : Nat) (h : ∀ h, Sat As h → Sat (cel p 69 [.slice a T.length c, I64 n] :: rdo a c T.length (T.flatMap tkC) :: R) h) : ∀ h, Sat As h → Sat (rdr p T n :: R) h := ex_close (a, c) trivial h
theorem rdr_tl {p : Nat} {t : Tk} {T : List Tk} {n : Nat} {R : List Assn} {a : Option Addr} {c : Nat} : ∀ h, Sat (cel p 69 [.slice (if c = 1 then a else a.map (fun x : Addr => x.add (1 * 4))) (T.length + 1 - 1) (c - 1), I64 n] :: rdo a c (T.length + 1) ((t :: T).flatMap tkC) :: R) h → Sat (rdr p T n :: R) h := fun h s =>
  rdr_close _ _ (fun h s => Sat.tail (fun h s => rdo_tail (x := tkC t) (xs := T.flatMap tkC) rfl (fun e => by rw [List.eq_nil_of_length_eq_zero e]; rfl) h s) s) h s
theorem rdr_shut {p : Nat} {T : List Tk} {n : Nat} {As R1 R2 : List Assn} (a : Option Addr) (c : Nat) (s1 : Sel (cel p 69 [.slice a T.length c, I64 n]) As R1) (s2 : Sel (rdo a c T.length (T.flatMap tkC)) R1 R2) : ∀ h, Sat As h → Sat (rdr p T n :: R2) h :=
  rdr_close a c (fun _ s => Sat.tail (fun _ => s2.to) (s1.to s))
theorem lit_rda {b n cap : Nat} {e : TypeId} {xs : List Value} : RdA (.slice (some ⟨b, 0, none⟩) n cap) (cel b e xs) n xs where
  get := fun ha => .inr ⟨b, 0, none, cap, rfl, fun _ => rfl, fun j x hx => ⟨rfl, xs.toArray, e, (0, 0), ha, by simpa using hx⟩⟩

set_option maxRecDepth 8000 in
set_option maxHeartbeats 1000000 in
theorem fail_spec (p : Nat) (T : List Tk) (n : Nat) : FnX Tryz.prog 57 [ptr p 0] [rdr p T n] (fun u Bs => False) (pxP (PR.bad T : PR Unit) n) := by
 refine fnx_body Tryz.func57 rfl rfl rfl ?_
 intro W0 R
 simp only [List.zipIdx_cons, List.zipIdx_nil, List.map_cons, List.map_nil, Nat.zero_add, Nat.reduceAdd, List.cons_append, List.nil_append]
 refine g_imp (fun h s => Sel.to (A := rdr p T n) sE s) ?_
 refine g_open .head ?_
 rintro ⟨a, c⟩ -
 simp only [List.cons_append, List.nil_append]
 refine g_seq ?_
 refine g_seq ?_
 refine g_region ?_
 refine gl_v rfl (o_move rfl) ?_
 refine gl_v rfl (o_nil rfl) ?_
 first | refine gl_v rfl (o_fldS rfl) ?_ | refine gl_v rfl (o_fld rfl) ?_
 first | refine gl_v rfl (o_load rfl rfl) ?_ | refine gl_v rfl (o_loadS rfl rfl) ?_ | refine gl_v rfl (o_loadC rfl) ?_
 first | refine gl_v rfl (o_len rfl) ?_ | refine gl_v rfl (o_lenL rfl) ?_
 refine gl_v rfl (o_eql rfl rfl) ?_
 refine gl_nil ?_
 refine ge_then ?_
 refine g_cond rfl (fun hc1 => ?_) (fun hc1 => ?_)
 ·
  replace hc1 := hs_ hc1
  obtain rfl : T = [] := List.eq_nil_of_length_eq_zero (by omega)
  refine g_region ?_
  refine gl_v rfl (o_move rfl) ?_
  refine gl_v rfl (o_nil rfl) ?_
  first | refine gl_v rfl (o_fldS rfl) ?_ | refine gl_v rfl (o_fld rfl) ?_
  first | refine gl_v rfl (o_load rfl rfl) ?_ | refine gl_v rfl (o_loadS rfl rfl) ?_ | refine gl_v rfl (o_loadC rfl) ?_
  refine gl_v rfl (o_build rfl rfl) ?_
  refine gl_n rfl (o_boxA rfl) ?_
  rintro _ _ ⟨b13, rfl, rfl⟩
  refine gl_v rfl (o_iface Tryz.underlying65 rfl rfl) ?_
  refine gl_panic rfl ?_
  exact ge_px [errM b13 (31, n)] ⟨[], b13, rfl, rfl, rfl⟩ (tO)
 ·
  replace hc1 := hs_ hc1
  obtain ⟨t, T, rfl⟩ : ∃ t T', T = t :: T' := by cases T with | nil => simp at * | cons t T => exact ⟨t, T, rfl⟩
  refine g_skip ?_
  refine ge_then ?_
  refine g_region ?_
  refine gl_v rfl (o_move rfl) ?_
  refine gl_v rfl (o_nil rfl) ?_
  first | refine gl_v rfl (o_fldS rfl) ?_ | refine gl_v rfl (o_fld rfl) ?_
  first | refine gl_v rfl (o_load rfl rfl) ?_ | refine gl_v rfl (o_loadS rfl rfl) ?_ | refine gl_v rfl (o_loadC rfl) ?_
  refine gl_v rfl (o_idxS (j := 0) rfl rfl (show 0 < (t :: T).length from Nat.succ_pos _)) ?_
  first | refine gl_v rfl (o_fldS rfl) ?_ | refine gl_v rfl (o_fld rfl) ?_
  refine gl_v rfl (o_loadS rfl (show ((t :: T).flatMap tkC)[0 * 4 + 3]? = some (I64 t.at') from rfl)) ?_
  refine gl_v rfl (o_build rfl rfl) ?_
  refine gl_n rfl (o_boxA rfl) ?_
  rintro _ _ ⟨b23, rfl, rfl⟩
  refine gl_v rfl (o_iface Tryz.underlying65 rfl rfl) ?_
  refine gl_panic rfl ?_
  exact ge_px [errM b23 (30, t.at')] ⟨t :: T, b23, rfl, rfl, rfl⟩ (tO)

set_option maxRecDepth 8000 in
set_option maxHeartbeats 1000000 in
theorem is_nil (p : Nat) (w : By) (n : Nat) : FnS Tryz.prog 84 [ptr p 0, S w] [rdr p [] n] (fun u Bs => u = .bool false ∧ Bs = [rdr p [] n]) := by
 refine fn_body Tryz.func84 rfl rfl rfl ?_
 intro W0 R
 simp only [List.zipIdx_cons, List.zipIdx_nil, List.map_cons, List.map_nil, Nat.zero_add, Nat.reduceAdd, List.cons_append, List.nil_append]
 refine g_imp (fun h s => Sel.to (A := rdr p [] n) sE s) ?_
 refine g_open .head ?_
 rintro ⟨a, c⟩ -
 simp only [List.cons_append, List.nil_append]
 refine g_seq ?_
 refine g_region ?_
 refine gl_v rfl (o_assign rfl) ?_
 refine gl_nil ?_
 refine ge_then ?_
 refine g_seq ?_
 refine g_region ?_
 refine gl_v rfl (o_move rfl) ?_
 refine gl_v rfl (o_nil rfl) ?_
 first | refine gl_v rfl (o_fldS rfl) ?_ | refine gl_v rfl (o_fld rfl) ?_
 first | refine gl_v rfl (o_load rfl rfl) ?_ | refine gl_v rfl (o_loadS rfl rfl) ?_ | refine gl_v rfl (o_loadC rfl) ?_
 first | refine gl_v rfl (o_len rfl) ?_ | refine gl_v rfl (o_lenL rfl) ?_
 refine gl_v rfl (o_is (c := false) (by rfl) (o_gtr rfl rfl)) ?_
 refine gl_v rfl (o_move rfl) ?_
 refine gl_gF rfl rfl rfl rfl ?_
 refine gl_gF rfl rfl rfl rfl ?_
 refine gl_gF rfl rfl rfl rfl ?_
 refine gl_gF rfl rfl rfl rfl ?_
 refine gl_gF rfl rfl rfl rfl ?_
 refine gl_gF rfl rfl rfl rfl ?_
 refine gl_gF rfl rfl rfl rfl ?_
 refine gl_gF rfl rfl rfl rfl ?_
 refine gl_v rfl (o_pickF rfl rfl rfl) ?_
 refine gl_v rfl (o_move rfl) ?_
 refine gl_gF rfl rfl rfl rfl ?_
 refine gl_gF rfl rfl rfl rfl ?_
 refine gl_gF rfl rfl rfl rfl ?_
 refine gl_gF rfl rfl rfl rfl ?_
 refine gl_gF rfl rfl rfl rfl ?_
 refine gl_gF rfl rfl rfl rfl ?_
 refine gl_gF rfl rfl rfl rfl ?_
 refine gl_gF rfl rfl rfl rfl ?_
 refine gl_gF rfl rfl rfl rfl ?_
 refine gl_v rfl (o_pickF rfl rfl rfl) ?_
 refine gl_v rfl (o_assign rfl) ?_
 refine gl_nil ?_
 refine ge_then ?_
 refine g_ret ?_
 refine ret1 (.inl rfl) rfl rfl [rdr p [] n] (⟨rfl, rfl⟩) (rdr_close (T := []) a c (tO))

set_option maxRecDepth 8000 in
set_option maxHeartbeats 1000000 in
theorem is_cons (p : Nat) (w : By) (t : Tk) (T : List Tk) (n : Nat) : FnS Tryz.prog 84 [ptr p 0, S w] [rdr p (t :: T) n] (fun u Bs => u = .bool (isW w (t :: T)) ∧ Bs = [rdr p (t :: T) n]) := by
 refine fn_body Tryz.func84 rfl rfl rfl ?_
 intro W0 R
 simp only [List.zipIdx_cons, List.zipIdx_nil, List.map_cons, List.map_nil, Nat.zero_add, Nat.reduceAdd, List.cons_append, List.nil_append]
 refine g_imp (fun h s => Sel.to (A := rdr p (t :: T) n) sE s) ?_
 refine g_open .head ?_
 rintro ⟨a, c⟩ -
 simp only [List.cons_append, List.nil_append]
 refine g_seq ?_
 refine g_region ?_
 refine gl_v rfl (o_assign rfl) ?_
 refine gl_nil ?_
 refine ge_then ?_
 refine g_seq ?_
 refine g_region ?_
 refine gl_v rfl (o_move rfl) ?_
 refine gl_v rfl (o_nil rfl) ?_
 first | refine gl_v rfl (o_fldS rfl) ?_ | refine gl_v rfl (o_fld rfl) ?_
 first | refine gl_v rfl (o_load rfl rfl) ?_ | refine gl_v rfl (o_loadS rfl rfl) ?_ | refine gl_v rfl (o_loadC rfl) ?_
 first | refine gl_v rfl (o_len rfl) ?_ | refine gl_v rfl (o_lenL rfl) ?_
 refine gl_v rfl (o_is (c := true) (by exact decide_eq_true (by simp)) (o_gtr rfl rfl)) ?_
 refine gl_v rfl (o_move rfl) ?_
 refine gl_gT rfl rfl rfl ?_
 refine gl_v rfl (o_move rfl) ?_
 refine gl_gT rfl rfl rfl ?_
 refine gl_v rfl (o_nil rfl) ?_
 refine gl_gT rfl rfl rfl ?_
 first | refine gl_v rfl (o_fldS rfl) ?_ | refine gl_v rfl (o_fld rfl) ?_
 refine gl_gT rfl rfl rfl ?_
 first | refine gl_v rfl (o_load rfl rfl) ?_ | refine gl_v rfl (o_loadS rfl rfl) ?_ | refine gl_v rfl (o_loadC rfl) ?_
 refine gl_gT rfl rfl rfl ?_
 refine gl_v rfl (o_idxS (j := 0) rfl rfl (show 0 < (t :: T).length from Nat.succ_pos _)) ?_
 refine gl_gT rfl rfl rfl ?_
 first | refine gl_v rfl (o_fldS rfl) ?_ | refine gl_v rfl (o_fld rfl) ?_
 refine gl_gT rfl rfl rfl ?_
 refine gl_v rfl (o_loadS rfl (show ((t :: T).flatMap tkC)[0 * 4 + 0]? = some (I64 t.kind) from rfl)) ?_
 refine gl_gT rfl rfl rfl ?_
 refine gl_v rfl (o_neq rfl rfl) ?_
 refine gl_v rfl (o_pickT rfl rfl rfl) ?_
 refine gl_v rfl (o_move rfl) ?_
 refine gl_g rfl rfl (fun hc1 => ?_) (fun hc1 => ?_) rfl
 ·
  have hc1' := hc1
  replace hc1' := hs_ hc1'
  refine gl_v rfl (o_move rfl) ?_
  refine gl_gT rfl rfl hc1 ?_
  refine gl_v rfl (o_nil rfl) ?_
  refine gl_gT rfl rfl hc1 ?_
  first | refine gl_v rfl (o_fldS rfl) ?_ | refine gl_v rfl (o_fld rfl) ?_
  refine gl_gT rfl rfl hc1 ?_
  first | refine gl_v rfl (o_load rfl rfl) ?_ | refine gl_v rfl (o_loadS rfl rfl) ?_ | refine gl_v rfl (o_loadC rfl) ?_
  refine gl_gT rfl rfl hc1 ?_
  refine gl_v rfl (o_idxS (j := 0) rfl rfl (show 0 < (t :: T).length from Nat.succ_pos _)) ?_
  refine gl_gT rfl rfl hc1 ?_
  first | refine gl_v rfl (o_fldS rfl) ?_ | refine gl_v rfl (o_fld rfl) ?_
  refine gl_gT rfl rfl hc1 ?_
  refine gl_v rfl (o_loadS rfl (show ((t :: T).flatMap tkC)[0 * 4 + 1]? = some (S t.text) from rfl)) ?_
  refine gl_gT rfl rfl hc1 ?_
  refine gl_v rfl (o_move rfl) ?_
  refine gl_gT rfl rfl hc1 ?_
  refine gl_v rfl (o_eqls rfl rfl) ?_
  refine gl_v rfl (o_pickT hc1 rfl rfl) ?_
  refine gl_v rfl (o_assign rfl) ?_
  refine gl_nil ?_
  refine ge_then ?_
  refine g_ret ?_
  refine ret1 (.inl rfl) rfl rfl [rdr p (t :: T) n] (⟨by show _ = Value.bool (!decide (t.kind = 2) && decide (t.text = w)); first | (rw [decide_eq_false (show ¬ t.kind = 2 by omega)]; rfl) | (rw [decide_eq_true (show t.kind = 2 by omega)]; rfl), rfl⟩) (rdr_close (T := t :: T) a c (tO))
 ·
  have hc1' := hc1
  replace hc1' := hs_ hc1'
  simp only [putO]
  refine gl_gF rfl rfl hc1 rfl ?_
  refine gl_gF rfl rfl hc1 rfl ?_
  refine gl_gF rfl rfl hc1 rfl ?_
  refine gl_gF rfl rfl hc1 rfl ?_
  refine gl_gF rfl rfl hc1 rfl ?_
  refine gl_gF rfl rfl hc1 rfl ?_
  refine gl_gF rfl rfl hc1 rfl ?_
  refine gl_gF rfl rfl hc1 rfl ?_
  refine gl_v rfl (o_pickF hc1 rfl rfl) ?_
  refine gl_v rfl (o_assign rfl) ?_
  refine gl_nil ?_
  refine ge_then ?_
  refine g_ret ?_
  refine ret1 (.inl rfl) rfl rfl [rdr p (t :: T) n] (⟨by show _ = Value.bool (!decide (t.kind = 2) && decide (t.text = w)); first | (rw [decide_eq_false (show ¬ t.kind = 2 by omega)]; rfl) | (rw [decide_eq_true (show t.kind = 2 by omega)]; rfl), rfl⟩) (rdr_close (T := t :: T) a c (tO))

theorem is_spec (p : Nat) (w : By) (T : List Tk) (n : Nat) : FnS Tryz.prog 84 [ptr p 0, S w] [rdr p T n] (fun u Bs => u = .bool (isW w T) ∧ Bs = [rdr p T n]) := by
  cases T with
  | nil => exact is_nil p w n
  | cons t T => exact is_cons p w t T n

set_option maxRecDepth 8000 in
set_option maxHeartbeats 1000000 in
theorem maybe_spec (p : Nat) (w : By) (T : List Tk) (n : Nat) : FnS Tryz.prog 56 [ptr p 0, S w] [rdr p T n] (fun u Bs => u = .bool (isW w T) ∧ Bs = [rdr p (if isW w T then T.tail else T) n]) := by
 refine fn_body Tryz.func56 rfl rfl rfl ?_
 intro W0 R
 simp only [List.zipIdx_cons, List.zipIdx_nil, List.map_cons, List.map_nil, Nat.zero_add, Nat.reduceAdd, List.cons_append, List.nil_append]
 refine g_seq ?_
 refine g_region ?_
 refine gl_v rfl (o_assign rfl) ?_
 refine gl_nil ?_
 refine ge_then ?_
 refine g_seq ?_
 refine g_region ?_
 refine gl_v rfl (o_move rfl) ?_
 refine gl_v rfl (o_move rfl) ?_
 refine gl_c rfl (o_call rfl (is_spec _ _ _ _) pA) ?_
 rintro _ R ⟨_, ⟨rfl, rfl⟩, rfl⟩
 try simp only [List.cons_append, List.nil_append]
 refine gl_v rfl (o_assign rfl) ?_
 refine gl_nil ?_
 refine ge_then ?_
 refine g_seq ?_
 refine g_seq ?_
 refine g_region ?_
 refine gl_v rfl (o_move rfl) ?_
 refine gl_nil ?_
 refine ge_then ?_
 refine g_cond rfl (fun hc1 => ?_) (fun hc1 => ?_)
 ·
  replace hc1 := hs_ hc1
  obtain ⟨t, T, rfl⟩ : ∃ t T', T = t :: T' := by cases T with | nil => cases hc1 | cons t T => exact ⟨t, T, rfl⟩
  refine g_imp (fun h s => Sel.to (A := rdr p (t :: T) n) sE s) ?_
  refine g_open .head ?_
  rintro ⟨a, c⟩ -
  simp only [List.cons_append, List.nil_append]
  refine g_region ?_
  refine gl_v rfl (o_move rfl) ?_
  refine gl_v rfl (o_move rfl) ?_
  refine gl_v rfl (o_nil rfl) ?_
  first | refine gl_v rfl (o_fldS rfl) ?_ | refine gl_v rfl (o_fld rfl) ?_
  first | refine gl_v rfl (o_load rfl rfl) ?_ | refine gl_v rfl (o_loadS rfl rfl) ?_ | refine gl_v rfl (o_loadC rfl) ?_
  refine gl_v rfl (o_slFrom (i := 1) rfl rfl (show 1 ≤ (t :: T).length from Nat.succ_le_succ (Nat.zero_le _))) ?_
  refine gl_v rfl (o_nil rfl) ?_
  first | refine gl_v rfl (o_fldS rfl) ?_ | refine gl_v rfl (o_fld rfl) ?_
  first | refine gl_u (o_store rfl rfl rfl rfl) ?_ | refine gl_u (o_storeS rfl rfl rfl (by first | assumption | omega | simp)) ?_
  refine gl_nil ?_
  refine ge_then ?_
  refine g_seq ?_
  refine g_region ?_
  refine gl_v rfl (o_move rfl) ?_
  refine gl_v rfl (o_assign rfl) ?_
  refine gl_nil ?_
  refine ge_then ?_
  refine g_ret ?_
  refine ret1 (.inl rfl) rfl rfl [rdr p T n] (⟨rfl, by rw [hc1]; rfl⟩) (fun h s => rdr_tl (t := t) (a := a) (c := c) h ((tO) h s))
 ·
  replace hc1 := hs_ hc1
  refine g_skip ?_
  refine ge_then ?_
  refine g_seq ?_
  refine g_region ?_
  refine gl_v rfl (o_move rfl) ?_
  refine gl_v rfl (o_assign rfl) ?_
  refine gl_nil ?_
  refine ge_then ?_
  refine g_ret ?_
  refine ret1 (.inl rfl) rfl rfl [rdr p T n] (⟨rfl, by rw [hc1]; rfl⟩) (tO)

theorem drop_at' {α : Type} {l : List α} {j : Nat} {x : α} (h : l[j]? = some x) : l.drop j = x :: l.drop (j + 1) := by
  obtain ⟨hj, e⟩ := List.getElem?_eq_some_iff.1 h
  rw [List.drop_eq_getElem_cons hj, e]

set_option maxRecDepth 8000 in
set_option maxHeartbeats 1000000 in
theorem must_spec (p : Nat) (ws : List By) (hw : ws.length ≤ 1000) (v : Value) (T : List Tk) (n : Nat) (A : Assn) [RdA v A ws.length (ws.map fun w => S w)] : FnX Tryz.prog 23 [ptr p 0, v] [rdr p T n, A] (fun u Bs => u = .tuple #[] ∧ ∃ r, mustP ws T = .ok () r ∧ Bs = [rdr p r n, A]) (pxP (mustP ws T) n) := by
 refine fnx_body Tryz.func23 rfl rfl rfl ?_
 intro W0 R
 simp only [List.zipIdx_cons, List.zipIdx_nil, List.map_cons, List.map_nil, Nat.zero_add, Nat.reduceAdd, List.cons_append, List.nil_append]
 refine g_seq ?_
 refine g_region ?_
 refine gl_v rfl (o_move rfl) ?_
 first | refine gl_v rfl (o_len rfl) ?_ | refine gl_v rfl (o_lenL rfl) ?_
 refine gl_v rfl (o_move rfl) ?_
 refine gl_nil ?_
 refine ge_then ?_
 refine g_block ?_
 refine g_loop (ι := Nat × List Tk) (fun x => x.1 ≤ ws.length ∧ mustP (ws.drop x.1) x.2 = mustP ws T) (fun x => [(8, I64 x.1), (7, I64 ws.length), (6, v), (0, ptr p 0)]) (fun x => rdr p x.2 n :: A :: R) (fun x => ws.length - x.1) (0, T) (⟨Nat.zero_le _, rfl⟩) (Keep.cons rfl (Keep.cons rfl (Keep.cons rfl (Keep.cons rfl (Keep.nil))))) (tO) ?_
 rintro ⟨j, X⟩ ⟨hj, hX⟩
 replace hj : j ≤ ws.length := hj
 replace hX : mustP (ws.drop j) X = mustP ws T := hX
 dsimp only
 refine g_seq ?_
 refine g_region ?_
 refine gl_v rfl (o_lss rfl rfl) ?_
 refine gl_nil ?_
 refine ge_then ?_
 refine g_seq ?_
 refine g_cond rfl (fun hc1 => ?_) (fun hc1 => ?_)
 ·
  replace hc1 := hs_ hc1
  have hj1 : j < ws.length := by omega
  obtain ⟨w, hwj⟩ : ∃ w, ws[j]? = some w := ⟨_, List.getElem?_eq_getElem hj1⟩
  have hdr := drop_at' hwj
  refine g_skip ?_
  refine ge_then ?_
  refine g_seq ?_
  refine g_block ?_
  refine g_seq ?_
  refine g_region ?_
  refine gl_v rfl (o_idxS rfl rfl (by first | assumption | omega)) ?_
  refine gl_v rfl (o_loadS rfl (show (ws.map fun w => S w)[j * 1]? = some (S w) by rw [Nat.mul_one, List.getElem?_map, hwj]; rfl)) ?_
  refine gl_v rfl (o_assign rfl) ?_
  refine gl_nil ?_
  refine ge_then ?_
  refine g_seq ?_
  refine g_region ?_
  refine gl_v rfl (o_move rfl) ?_
  refine gl_v rfl (o_move rfl) ?_
  refine gl_c rfl (o_call rfl (maybe_spec _ _ _ _) pA) ?_
  rintro _ R ⟨_, ⟨rfl, rfl⟩, rfl⟩
  try simp only [List.cons_append, List.nil_append]
  refine gl_v rfl (o_not rfl) ?_
  refine gl_nil ?_
  refine ge_then ?_
  refine g_cond rfl (fun hc2 => ?_) (fun hc2 => ?_)
  ·
   replace hc2 := hs_ hc2
   have hc2 : isW w X = false := hc2
   rw [hc2]
   refine g_region ?_
   refine gl_v rfl (o_move rfl) ?_
   refine gl_cx rfl (o_callX rfl (fail_spec _ _ _) pA) ?_ ?_
   ·
    rintro ch _ ⟨_, ⟨rx, bx, hbad, rfl, rfl⟩, rfl⟩
    try simp only [List.cons_append, List.nil_append]
    exact ge_px (P := Tryz.prog) (fn := Tryz.f23) _ ⟨rx, bx, by rw [← hX, hdr]; show (if isW w X then mustP (ws.drop (j + 1)) X.tail else PR.bad X) = _; rw [hc2, if_neg (by decide)]; cases hbad; rfl, rfl, rfl⟩ (tO)
   rintro _ _ ⟨_, hdead, _⟩
   exact hdead.elim
  ·
   replace hc2 := hs_ hc2
   have hc2 : isW w X = true := hc2
   refine g_skip ?_
   refine ge_block ?_
   refine ge_then ?_
   refine g_region ?_
   refine gl_v rfl (o_addR ((j + 1 : Nat) : Int) (by rw [wr_i64 (by omega)]; omega) rfl rfl) ?_
   refine gl_v rfl (o_move rfl) ?_
   refine gl_nil ?_
   refine ge_round (j + 1, X.tail) ⟨by show j + 1 ≤ ws.length; omega, by rw [← hX, hdr]; show _ = (if isW w X then mustP (ws.drop (j + 1)) X.tail else .bad X); rw [hc2, if_pos rfl]⟩ (by show ws.length - (j + 1) < ws.length - j; omega) (Keep.cons rfl (Keep.cons rfl (Keep.cons rfl (Keep.cons rfl (Keep.nil))))) (by rw [hc2]; exact (tO))
 ·
  replace hc1 := hs_ hc1
  obtain rfl : j = ws.length := by omega
  rw [List.drop_length] at hX
  refine g_exit ?_
  refine ge_then_exit ?_
  refine ge_then_exit ?_
  refine ge_block_exit ?_
  refine ge_x (.inr rfl) ?_
  refine ret0 (.inr rfl) rfl [rdr p X n, A] (⟨rfl, X, hX.symm, rfl⟩) (tO)

set_option maxRecDepth 8000 in
set_option maxHeartbeats 1000000 in
theorem take_nil (p k n : Nat) : FnX Tryz.prog 85 [ptr p 0, I64 k] [rdr p [] n] (fun u Bs => ∃ t' r, takeP k [] = .ok t' r ∧ u = .agg (tkC t').toArray ∧ Bs = [rdr p r n]) (pxP (takeP k []) n) := by
 refine fnx_body Tryz.func85 rfl rfl rfl ?_
 intro W0 R
 simp only [List.zipIdx_cons, List.zipIdx_nil, List.map_cons, List.map_nil, Nat.zero_add, Nat.reduceAdd, List.cons_append, List.nil_append]
 refine g_imp (fun h s => Sel.to (A := rdr p [] n) sE s) ?_
 refine g_open .head ?_
 rintro ⟨a, c⟩ -
 simp only [List.cons_append, List.nil_append]
 refine g_seq ?_
 refine g_region ?_
 refine gl_n rfl (o_alloc) ?_
 rintro _ _ ⟨b4, rfl, rfl⟩
 refine gl_nil ?_
 refine ge_then ?_
 refine g_seq ?_
 refine g_seq ?_
 refine g_region ?_
 refine gl_v rfl (o_move rfl) ?_
 refine gl_v rfl (o_nil rfl) ?_
 first | refine gl_v rfl (o_fldS rfl) ?_ | refine gl_v rfl (o_fld rfl) ?_
 first | refine gl_v rfl (o_load rfl rfl) ?_ | refine gl_v rfl (o_loadS rfl rfl) ?_ | refine gl_v rfl (o_loadC rfl) ?_
 first | refine gl_v rfl (o_len rfl) ?_ | refine gl_v rfl (o_lenL rfl) ?_
 refine gl_v rfl (o_is (c := true) (by rfl) (o_eql rfl rfl)) ?_
 refine gl_v rfl (o_move rfl) ?_
 refine gl_gF rfl rfl rfl rfl ?_
 refine gl_gF rfl rfl rfl rfl ?_
 refine gl_gF rfl rfl rfl rfl ?_
 refine gl_gF rfl rfl rfl rfl ?_
 refine gl_gF rfl rfl rfl rfl ?_
 refine gl_gF rfl rfl rfl rfl ?_
 refine gl_gF rfl rfl rfl rfl ?_
 refine gl_gF rfl rfl rfl rfl ?_
 refine gl_gF rfl rfl rfl rfl ?_
 refine gl_v rfl (o_pickT rfl rfl rfl) ?_
 refine gl_nil ?_
 refine ge_then ?_
 refine g_cond_true rfl ?_
 refine g_imp (rdr_shut (T := []) a c sE sE) ?_
 refine g_region ?_
 refine gl_v rfl (o_move rfl) ?_
 refine gl_cx rfl (o_callX rfl (fail_spec _ _ _) pA) ?_ ?_
 ·
  rintro ch _ ⟨_, ⟨rx, bx, hbad, rfl, rfl⟩, rfl⟩
  try simp only [List.cons_append, List.nil_append]
  exact ge_px (P := Tryz.prog) (fn := Tryz.f85) _ ⟨rx, bx, by cases hbad; rfl, rfl, rfl⟩ (tO)
 rintro _ _ ⟨_, hdead, _⟩
 exact hdead.elim

set_option maxRecDepth 8000 in
set_option maxHeartbeats 1000000 in
theorem take_cons (p k n : Nat) (t : Tk) (T : List Tk) : FnX Tryz.prog 85 [ptr p 0, I64 k] [rdr p (t :: T) n] (fun u Bs => ∃ t' r, takeP k (t :: T) = .ok t' r ∧ u = .agg (tkC t').toArray ∧ Bs = [rdr p r n]) (pxP (takeP k (t :: T)) n) := by
 refine fnx_body Tryz.func85 rfl rfl rfl ?_
 intro W0 R
 simp only [List.zipIdx_cons, List.zipIdx_nil, List.map_cons, List.map_nil, Nat.zero_add, Nat.reduceAdd, List.cons_append, List.nil_append]
 refine g_imp (fun h s => Sel.to (A := rdr p (t :: T) n) sE s) ?_
 refine g_open .head ?_
 rintro ⟨a, c⟩ -
 simp only [List.cons_append, List.nil_append]
 refine g_seq ?_
 refine g_region ?_
 refine gl_n rfl (o_alloc) ?_
 rintro _ _ ⟨b4, rfl, rfl⟩
 refine gl_nil ?_
 refine ge_then ?_
 refine g_seq ?_
 refine g_seq ?_
 refine g_region ?_
 refine gl_v rfl (o_move rfl) ?_
 refine gl_v rfl (o_nil rfl) ?_
 first | refine gl_v rfl (o_fldS rfl) ?_ | refine gl_v rfl (o_fld rfl) ?_
 first | refine gl_v rfl (o_load rfl rfl) ?_ | refine gl_v rfl (o_loadS rfl rfl) ?_ | refine gl_v rfl (o_loadC rfl) ?_
 first | refine gl_v rfl (o_len rfl) ?_ | refine gl_v rfl (o_lenL rfl) ?_
 refine gl_v rfl (o_is (c := false) (by exact decide_eq_false (by simp; omega)) (o_eql rfl rfl)) ?_
 refine gl_v rfl (o_move rfl) ?_
 refine gl_gT rfl rfl rfl ?_
 refine gl_v rfl (o_move rfl) ?_
 refine gl_gT rfl rfl rfl ?_
 refine gl_v rfl (o_nil rfl) ?_
 refine gl_gT rfl rfl rfl ?_
 first | refine gl_v rfl (o_fldS rfl) ?_ | refine gl_v rfl (o_fld rfl) ?_
 refine gl_gT rfl rfl rfl ?_
 first | refine gl_v rfl (o_load rfl rfl) ?_ | refine gl_v rfl (o_loadS rfl rfl) ?_ | refine gl_v rfl (o_loadC rfl) ?_
 refine gl_gT rfl rfl rfl ?_
 refine gl_v rfl (o_idxS (j := 0) rfl rfl (show 0 < (t :: T).length from Nat.succ_pos _)) ?_
 refine gl_gT rfl rfl rfl ?_
 first | refine gl_v rfl (o_fldS rfl) ?_ | refine gl_v rfl (o_fld rfl) ?_
 refine gl_gT rfl rfl rfl ?_
 refine gl_v rfl (o_loadS rfl (show ((t :: T).flatMap tkC)[0 * 4 + 0]? = some (I64 t.kind) from rfl)) ?_
 refine gl_gT rfl rfl rfl ?_
 refine gl_v rfl (o_move rfl) ?_
 refine gl_gT rfl rfl rfl ?_
 refine gl_v rfl (o_neq rfl rfl) ?_
 refine gl_v rfl (o_pickF rfl rfl rfl) ?_
 refine gl_nil ?_
 refine ge_then ?_
 refine g_cond rfl (fun hc1 => ?_) (fun hc1 => ?_)
 ·
  replace hc1 := hs_ hc1
  have hk : ¬ t.kind = k := by omega
  refine g_imp (rdr_shut (T := t :: T) a c sE sE) ?_
  refine g_region ?_
  refine gl_v rfl (o_move rfl) ?_
  refine gl_cx rfl (o_callX rfl (fail_spec _ _ _) pA) ?_ ?_
  ·
   rintro ch _ ⟨_, ⟨rx, bx, hbad, rfl, rfl⟩, rfl⟩
   try simp only [List.cons_append, List.nil_append]
   exact ge_px (P := Tryz.prog) (fn := Tryz.f85) _ ⟨rx, bx, by show (if t.kind = k then PR.ok t T else PR.bad (t :: T)) = _; rw [if_neg hk]; cases hbad; rfl, rfl, rfl⟩ (tO)
  rintro _ _ ⟨_, hdead, _⟩
  exact hdead.elim
 ·
  replace hc1 := hs_ hc1
  have hk : t.kind = k := by omega
  refine g_skip ?_
  refine ge_then ?_
  refine g_seq ?_
  refine g_region ?_
  refine gl_v rfl (o_move rfl) ?_
  refine gl_v rfl (o_nil rfl) ?_
  first | refine gl_v rfl (o_fldS rfl) ?_ | refine gl_v rfl (o_fld rfl) ?_
  first | refine gl_v rfl (o_load rfl rfl) ?_ | refine gl_v rfl (o_loadS rfl rfl) ?_ | refine gl_v rfl (o_loadC rfl) ?_
  refine gl_v rfl (o_idxS (j := 0) rfl rfl (show 0 < (t :: T).length from Nat.succ_pos _)) ?_
  refine gl_v rfl (o_loadSA (vs := tkC t) rfl rfl rfl) ?_
  refine gl_n rfl (o_alloc) ?_
  rintro _ _ ⟨b5, rfl, rfl⟩
  first | refine gl_u (o_storeSA rfl rfl rfl rfl (by simp; omega) (by simp)) ?_ | refine gl_u (o_storeA rfl rfl rfl rfl rfl) ?_
  refine gl_nil ?_
  refine ge_then ?_
  refine g_seq ?_
  refine g_region ?_
  refine gl_v rfl (o_move rfl) ?_
  refine gl_v rfl (o_move rfl) ?_
  refine gl_v rfl (o_nil rfl) ?_
  first | refine gl_v rfl (o_fldS rfl) ?_ | refine gl_v rfl (o_fld rfl) ?_
  first | refine gl_v rfl (o_load rfl rfl) ?_ | refine gl_v rfl (o_loadS rfl rfl) ?_ | refine gl_v rfl (o_loadC rfl) ?_
  refine gl_v rfl (o_slFrom (i := 1) rfl rfl (show 1 ≤ (t :: T).length from Nat.succ_le_succ (Nat.zero_le _))) ?_
  refine gl_v rfl (o_nil rfl) ?_
  first | refine gl_v rfl (o_fldS rfl) ?_ | refine gl_v rfl (o_fld rfl) ?_
  first | refine gl_u (o_store rfl rfl rfl rfl) ?_ | refine gl_u (o_storeS rfl rfl rfl (by first | assumption | omega | simp)) ?_
  refine gl_nil ?_
  refine ge_then ?_
  refine g_seq ?_
  refine g_region ?_
  first | refine gl_v rfl (o_loadSA rfl rfl rfl) ?_ | refine gl_v rfl (o_loadA rfl rfl rfl) ?_
  first | refine gl_u (o_storeSA rfl rfl rfl rfl (by simp; omega) (by simp)) ?_ | refine gl_u (o_storeA rfl rfl rfl rfl rfl) ?_
  refine gl_nil ?_
  refine ge_then ?_
  refine g_ret ?_
  refine ge_x (.inl rfl) ?_
  refine ret1c (.inl rfl) rfl rfl rfl rfl [rdr p T n] (⟨t, T, by show (if t.kind = k then PR.ok t T else PR.bad (t :: T)) = _; rw [if_pos hk], rfl, rfl⟩) (fun h s => rdr_tl (t := t) (a := a) (c := c) h ((tO) h s))

theorem take_spec (p k n : Nat) (T : List Tk) : FnX Tryz.prog 85 [ptr p 0, I64 k] [rdr p T n] (fun u Bs => ∃ t' r, takeP k T = .ok t' r ∧ u = .agg (tkC t').toArray ∧ Bs = [rdr p r n]) (pxP (takeP k T) n) := by
  cases T with
  | nil => exact take_nil p k n
  | cons t T => exact take_cons p k n t T

set_option maxRecDepth 8000 in
set_option maxHeartbeats 1000000 in
theorem name_spec (p n : Nat) (T : List Tk) : FnX Tryz.prog 58 [ptr p 0] [rdr p T n] (fun u Bs => ∃ s r, nameP T = .ok s r ∧ u = S s ∧ Bs = [rdr p r n]) (pxP (nameP T) n) := by
 refine fnx_body Tryz.func58 rfl rfl rfl ?_
 intro W0 R
 simp only [List.zipIdx_cons, List.zipIdx_nil, List.map_cons, List.map_nil, Nat.zero_add, Nat.reduceAdd, List.cons_append, List.nil_append]
 refine g_seq ?_
 refine g_region ?_
 refine gl_v rfl (o_assign rfl) ?_
 refine gl_nil ?_
 refine ge_then ?_
 refine g_seq ?_
 refine g_region ?_
 refine gl_v rfl (o_move rfl) ?_
 refine gl_cx rfl (o_callX rfl (take_spec p 1 n T) pA) ?_ ?_
 ·
  rintro ch _ ⟨_, ⟨rx, bx, hbad, rfl, rfl⟩, rfl⟩
  try simp only [List.cons_append, List.nil_append]
  exact ge_px (P := Tryz.prog) (fn := Tryz.f58) _ ⟨rx, bx, by unfold nameP; rw [hbad]; rfl, rfl, rfl⟩ (tO)
 rintro _ R ⟨_, ⟨t, r, ht, rfl, rfl⟩, rfl⟩
 try simp only [List.cons_append, List.nil_append]
 first | refine gl_v rfl (o_field rfl rfl) ?_ | refine gl_v rfl (o_fieldA rfl rfl) ?_
 refine gl_v rfl (o_assign rfl) ?_
 refine gl_nil ?_
 refine ge_then ?_
 refine g_ret ?_
 refine ge_x (.inl rfl) ?_
 refine ret1 (.inl rfl) rfl rfl _ (⟨_, r, by unfold nameP; rw [ht]; rfl, rfl, rfl⟩) (tO)

set_option maxRecDepth 8000 in
set_option maxHeartbeats 1000000 in
theorem number_spec (p n : Nat) (T : List Tk) : FnX Tryz.prog 59 [ptr p 0] [rdr p T n] (fun u Bs => ∃ s r, numP T = .ok s r ∧ u = I64 s ∧ Bs = [rdr p r n]) (pxP (numP T) n) := by
 refine fnx_body Tryz.func59 rfl rfl rfl ?_
 intro W0 R
 simp only [List.zipIdx_cons, List.zipIdx_nil, List.map_cons, List.map_nil, Nat.zero_add, Nat.reduceAdd, List.cons_append, List.nil_append]
 refine g_seq ?_
 refine g_region ?_
 refine gl_v rfl (o_assign rfl) ?_
 refine gl_nil ?_
 refine ge_then ?_
 refine g_seq ?_
 refine g_region ?_
 refine gl_v rfl (o_move rfl) ?_
 refine gl_cx rfl (o_callX rfl (take_spec p 2 n T) pA) ?_ ?_
 ·
  rintro ch _ ⟨_, ⟨rx, bx, hbad, rfl, rfl⟩, rfl⟩
  try simp only [List.cons_append, List.nil_append]
  exact ge_px (P := Tryz.prog) (fn := Tryz.f59) _ ⟨rx, bx, by unfold numP; rw [hbad]; rfl, rfl, rfl⟩ (tO)
 rintro _ R ⟨_, ⟨t, r, ht, rfl, rfl⟩, rfl⟩
 try simp only [List.cons_append, List.nil_append]
 first | refine gl_v rfl (o_field rfl rfl) ?_ | refine gl_v rfl (o_fieldA rfl rfl) ?_
 refine gl_v rfl (o_assign rfl) ?_
 refine gl_nil ?_
 refine ge_then ?_
 refine g_ret ?_
 refine ge_x (.inl rfl) ?_
 refine ret1 (.inl rfl) rfl rfl _ (⟨_, r, by unfold numP; rw [ht]; rfl, rfl, rfl⟩) (tO)

theorem must1 (p : Nat) (w : By) (b : Nat) (T : List Tk) (n : Nat) : FnX Tryz.prog 23 [ptr p 0, .slice (some ⟨b, 0, none⟩) 1 1] [rdr p T n, cel b 9 [S w]] (fun u Bs => u = .tuple #[] ∧ ∃ r, mustP [w] T = .ok () r ∧ Bs = [rdr p r n, cel b 9 [S w]]) (pxP (mustP [w] T) n) :=
  haveI : RdA (.slice (some ⟨b, 0, none⟩) 1 1) (cel b 9 [S w]) [w].length ([w].map fun w => S w) := lit_rda
  must_spec p [w] (by simp) (.slice (some ⟨b, 0, none⟩) 1 1) T n (cel b 9 [S w])

set_option maxRecDepth 8000 in
set_option maxHeartbeats 1000000 in
theorem dir_spec (p n : Nat) (T : List Tk) : FnX Tryz.prog 60 [ptr p 0] [rdr p T n] (fun u Bs => ∃ d r, dirP T = .ok d r ∧ u = I64 d ∧ Bs = [rdr p r n]) (pxP (dirP T) n) := by
 refine fnx_body Tryz.func60 rfl rfl rfl ?_
 intro W0 R
 simp only [List.zipIdx_cons, List.zipIdx_nil, List.map_cons, List.map_nil, Nat.zero_add, Nat.reduceAdd, List.cons_append, List.nil_append]
 refine g_seq ?_
 refine g_region ?_
 refine gl_v rfl (o_assign rfl) ?_
 refine gl_nil ?_
 refine ge_then ?_
 refine g_seq ?_
 refine g_seq ?_
 refine g_region ?_
 refine gl_n rfl (o_buildS rfl rfl rfl rfl) ?_
 rintro _ _ ⟨b5, rfl, rfl⟩
 first | refine gl_v rfl (o_len rfl) ?_ | refine gl_v rfl (o_lenL rfl) ?_
 refine gl_v rfl (o_move rfl) ?_
 refine gl_nil ?_
 refine ge_then ?_
 refine g_block ?_
 refine g_loop (ι := Nat) (fun x => x ≤ 4 ∧ dirG (dirs.drop x) x T = dirP T) (fun x => [(7, I64 x), (6, I64 4), (5, .slice (some ⟨b5, 0, none⟩) 4 4), (0, ptr p 0)]) (fun x => rdr p T n :: cel b5 9 (dirs.map fun w => S w) :: R) (fun x => 4 - x) 0 (⟨by decide, rfl⟩) (Keep.cons rfl (Keep.cons rfl (Keep.cons rfl (Keep.cons rfl (Keep.nil))))) (tO) ?_
 rintro j ⟨hj, hX⟩
 replace hj : j ≤ 4 := hj
 refine g_seq ?_
 refine g_region ?_
 refine gl_v rfl (o_lss rfl rfl) ?_
 refine gl_nil ?_
 refine ge_then ?_
 refine g_seq ?_
 refine g_cond rfl (fun hc1 => ?_) (fun hc1 => ?_)
 ·
  replace hc1 := hs_ hc1
  have hj1 : j < dirs.length := by show j < 4; omega
  obtain ⟨w, hwj⟩ : ∃ w, dirs[j]? = some w := ⟨_, List.getElem?_eq_getElem hj1⟩
  have hdr := drop_at' hwj
  refine g_skip ?_
  refine ge_then ?_
  refine g_seq ?_
  refine g_block ?_
  refine g_seq ?_
  refine g_region ?_
  refine gl_v rfl (o_move rfl) ?_
  refine gl_v rfl (o_idxS rfl rfl (show j < 4 by omega)) ?_
  refine gl_v rfl (o_loadS rfl (show (dirs.map fun w => S w)[j * 1]? = some (S w) by rw [Nat.mul_one, List.getElem?_map, hwj]; rfl)) ?_
  refine gl_v rfl (o_assign rfl) ?_
  refine gl_v rfl (o_assign rfl) ?_
  refine gl_nil ?_
  refine ge_then ?_
  refine g_seq ?_
  refine g_region ?_
  refine gl_v rfl (o_move rfl) ?_
  refine gl_v rfl (o_move rfl) ?_
  refine gl_c rfl (o_call rfl (maybe_spec _ _ _ _) pA) ?_
  rintro _ R ⟨_, ⟨rfl, rfl⟩, rfl⟩
  try simp only [List.cons_append, List.nil_append]
  refine gl_nil ?_
  refine ge_then ?_
  refine g_cond rfl (fun hc2 => ?_) (fun hc2 => ?_)
  ·
   replace hc2 := hs_ hc2
   have hc2 : isW w T = true := hc2
   rw [hc2]
   refine g_seq ?_
   refine g_region ?_
   refine gl_v rfl (o_move rfl) ?_
   first | refine gl_n rfl (o_buildS1 rfl rfl rfl) ?_ | refine gl_n rfl (o_buildS1A rfl rfl rfl rfl) ?_ | refine gl_n rfl (o_buildS rfl rfl rfl rfl) ?_
   rintro _ _ ⟨b16, rfl, rfl⟩
   refine gl_cx rfl (o_callX rfl (must1 p wSemi b16 (T.tail) n) pA) ?_ ?_
   ·
    rintro ch _ ⟨_, ⟨rx, bx, hbad, rfl, rfl⟩, rfl⟩
    try simp only [List.cons_append, List.nil_append]
    exact ge_px (P := Tryz.prog) (fn := Tryz.f60) _ ⟨rx, bx, by rw [← hX, hdr]; show (if isW w T then (mustP [wSemi] T.tail).bind _ else _) = _; rw [hc2, if_pos rfl, hbad]; rfl, rfl, rfl⟩ (tO)
   rintro _ R ⟨_, ⟨rfl, r, hr, rfl⟩, rfl⟩
   try simp only [List.cons_append, List.nil_append]
   refine gl_nil ?_
   refine ge_then ?_
   refine g_seq ?_
   refine g_region ?_
   refine gl_v rfl (o_move rfl) ?_
   refine gl_v rfl (o_addR ((j + 1 : Nat) : Int) (by rw [wr_i64 (by omega)]; omega) rfl rfl) ?_
   refine gl_v rfl (o_assign rfl) ?_
   refine gl_nil ?_
   refine ge_then ?_
   refine g_ret ?_
   refine ge_block_ret ?_
   refine ge_then_ret ?_
   refine ge_then_ret ?_
   refine ge_block_ret ?_
   refine ge_then_ret ?_
   refine ge_x (.inl rfl) ?_
   refine ret1 (.inl rfl) rfl rfl [rdr p r n] (⟨_, r, by rw [← hX, hdr]; show (if isW w T then (mustP [wSemi] T.tail).bind _ else _) = _; rw [hc2, if_pos rfl, hr]; rfl, rfl, rfl⟩) (tO)
  ·
   replace hc2 := hs_ hc2
   have hc2 : isW w T = false := hc2
   refine g_skip ?_
   refine ge_block ?_
   refine ge_then ?_
   refine g_region ?_
   refine gl_v rfl (o_addR ((j + 1 : Nat) : Int) (by rw [wr_i64 (by omega)]; omega) rfl rfl) ?_
   refine gl_v rfl (o_move rfl) ?_
   refine gl_nil ?_
   refine ge_round (j + 1) ⟨by show j + 1 ≤ 4; omega, by rw [← hX, hdr]; show _ = (if isW w T then _ else dirG (dirs.drop (j + 1)) (j + 1) T); rw [hc2, if_neg (by decide)]⟩ (by show 4 - (j + 1) < 4 - j; omega) (Keep.cons rfl (Keep.cons rfl (Keep.cons rfl (Keep.cons rfl (Keep.nil))))) (by rw [hc2]; exact (tO))
 ·
  replace hc1 := hs_ hc1
  obtain rfl : j = 4 := by omega
  refine g_exit ?_
  refine ge_then_exit ?_
  refine ge_then_exit ?_
  refine ge_block_exit ?_
  refine ge_then ?_
  refine g_seq ?_
  refine g_region ?_
  refine gl_v rfl (o_move rfl) ?_
  refine gl_cx rfl (o_callX rfl (fail_spec _ _ _) pA) ?_ ?_
  ·
   rintro ch _ ⟨_, ⟨rx, bx, hbad, rfl, rfl⟩, rfl⟩
   try simp only [List.cons_append, List.nil_append]
   exact ge_px (P := Tryz.prog) (fn := Tryz.f60) _ ⟨rx, bx, by rw [← hX]; cases hbad; rfl, rfl, rfl⟩ (tO)
  rintro _ _ ⟨_, hdead, _⟩
  exact hdead.elim

end Go.Proofs.YtgmdlhlmffdbhaaGreatDoor.L
