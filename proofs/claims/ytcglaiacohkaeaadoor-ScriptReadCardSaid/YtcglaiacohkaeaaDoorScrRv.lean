/-
  Script: an event's line read. Own work, printed in part by a program of its own.
-/
import Derived.Test.YtcglaiacohkaeaaDoorScrRd
import Derived.Test.YtcglaiacohkaeaaDoorScrV
set_option linter.unusedSimpArgs false
set_option linter.unusedVariables false
set_option linter.unusedSectionVars false
namespace Go.Proofs.YtcglaiacohkaeaaDoor.L
open Go.L Go.L.Lx Go.L.Pa Go.L.Sc
def evtC (e : Evt) : List Value := [I64 e.kind, I64 e.actor, U64 e.id, I64 e.from', I64 e.to, S e.name, I64 e.n, I64 e.why, .bool e.timed]
theorem numR_range {lo hi : Int} (h : lo ≤ 0 ∧ 0 ≤ hi) (ω : Om) : lo ≤ numR lo hi ω ∧ numR lo hi ω ≤ hi := by
  unfold numR
  cases hv : numV lo hi (takeV ω) with
  | none => exact h
  | some n => have := numV_iff.1 hv; exact ⟨this.1, this.2.1⟩
theorem small_name1 {ω : Om} (h : small ω) : small (nameS1 ω) := small_tail h
theorem endV_plain {x : Evt × Om} (h : x.1.kind ≠ 2) : endV x = if doneB x.2 = true then some x.1 else none := by
  have h1 : timedS x = x := if_neg (fun h2 => h (And.left h2))
  unfold endV; rw [h1]
theorem timed_no {e : Evt} {ω : Om} (h : ω.1 = []) : timedS (e, ω) = (e, ω) := if_neg (fun h2 => h2.2 h)
theorem timed_bd {e : Evt} {ω : Om} (h : e.kind = 2) (h2 : ω.1 ≠ []) (h3 : ω.2 = true) : timedS (e, ω) = ({ e with timed := true }, ω) := (if_pos ⟨h, h2⟩).trans (congrArg _ (if_pos h3))
theorem timed_ok {e : Evt} {w : By} {ws : List By} (h : e.kind = 2) : timedS (e, (w :: ws, false)) = ({ e with timed := true }, (ws, !decide (w = wTimed))) := if_pos ⟨h, by simp⟩
theorem endV_no {e : Evt} {ω : Om} (h : ω.1 = []) : endV (e, ω) = if doneB ω = true then some e else none := by unfold endV; rw [timed_no h]
theorem endV_bd {e : Evt} {ω : Om} (h : e.kind = 2) (h2 : ω.1 ≠ []) (h3 : ω.2 = true) : endV (e, ω) = if doneB ω = true then some { e with timed := true } else none := by unfold endV; rw [timed_bd h h2 h3]
theorem endV_ok {e : Evt} {w : By} {ws : List By} (h : e.kind = 2) : endV (e, (w :: ws, false)) = if doneB (ws, !decide (w = wTimed)) = true then some { e with timed := true } else none := by unfold endV; rw [timed_ok h]
section
variable {P : Program} {W0 w : World} {n : Nat} {sl : Slots} {As : List Assn} {ty : TypeId}
theorem o_indexV {t e : TypeId} {x y : Operand} {vs : List Value} {i len : Nat} {v : Value} {kk : IntKind} (h1 : P.underlying t = some (.array len e)) [j : TCell P e] (hx : opv sl x = some (.agg vs.toArray)) (hy : opv sl y = some (.int kk (i : Int))) (hi : i < len) (hv : vs[i]? = some v) : OV P W0 n (.index t x y) ty sl As v := fun a w d pos aft g hs _ => by
  obtain ⟨dd, g1, g2⟩ := j.out
  obtain ⟨inf, g3, g4⟩ := j.size
  simp only [execOp, hs.eval hx, hs.eval hy]
  have h0 : (0 : Int) ≤ i ∧ (i : Int) < len := by omega
  simp [Instr.index, asIntOf, rU h1, h0, part, rA0 g1 g2, rS g3, g4, hi, hv]
end
theorem verb_at {i : Nat} (h : i < 16) : (verbsL.map fun w => S w)[i]? = some (S (vb i)) := by
  have : ∀ i, i < 16 → verbsL[i]? = some (vb i) := by decide
  rw [List.getElem?_map, this i h]; rfl
theorem trim_eq (s : By) : (if ([45] : By).isPrefixOf s then s.drop ([45] : By).length else s) = trimS s := rfl
@[simp] theorem evtC_len (e : Evt) : (evtC e).length = 9 := rfl
theorem lit_rda {b n cap : Nat} {e : TypeId} {xs : List Value} : RdA (.slice (some ⟨b, 0, none⟩) n cap) (cel b e xs) n xs where
  get := fun ha => .inr ⟨b, 0, none, cap, rfl, fun _ => rfl, fun j x hx => ⟨rfl, xs.toArray, e, (0, 0), ha, by simpa using hx⟩⟩

set_option maxRecDepth 8000 in
set_option maxHeartbeats 1000000 in
theorem name1_spec (p b : Nat) (ω : Om) (hw : (takeV ω).length ≤ 140737488355328) : FnS Tryd.prog 30 [ptr p 0, .slice (some ⟨b, 0, none⟩) 1 1] [wrd p ω, cel b 9 [S [45]]] (fun u Bs => u = S (takeV ω) ∧ Bs = [wrd p (nameS1 ω), cel b 9 [S [45]]]) := by
 refine fn_body Tryd.func30 rfl rfl rfl ?_
 intro W0 R
 simp only [List.zipIdx_cons, List.zipIdx_nil, List.map_cons, List.map_nil, Nat.zero_add, Nat.reduceAdd, List.cons_append, List.nil_append]
 haveI hrd : RdA (.slice (some ⟨b, 0, none⟩) 1 1) (cel b 9 [S [45]]) 1 [S [45]] := lit_rda
 refine g_seq ?_
 refine g_region ?_
 refine gl_v rfl (o_assign rfl) ?_
 refine gl_nil ?_
 refine ge_then ?_
 refine g_seq ?_
 refine g_region ?_
 refine gl_v rfl (o_move rfl) ?_
 refine gl_c rfl (o_call rfl (take_spec p ω) pA) ?_
 rintro _ R ⟨_, ⟨rfl, rfl⟩, rfl⟩
 try simp only [List.cons_append, List.nil_append]
 refine gl_v rfl (o_assign rfl) ?_
 refine gl_nil ?_
 refine ge_then ?_
 refine g_seq ?_
 refine g_seq ?_
 refine g_region ?_
 refine gl_v rfl (o_move rfl) ?_
 refine gl_v rfl (o_lenL rfl) ?_
 refine gl_v rfl (o_move rfl) ?_
 refine gl_nil ?_
 refine ge_then ?_
 refine g_block ?_
 refine g_loop (ι := Nat) (fun j => j ≤ 1 ∧ (j = 1 → ¬ takeV ω = wDash)) (fun j => [(12, I64 j), (11, I64 1), (10, .slice (some ⟨b, 0, none⟩) 1 1), (5, S (takeV ω)), (0, ptr p 0)]) (fun j => wrd p (takeS ω) :: cel b 9 [S [45]] :: R) (fun j => 1 - j) 0 (⟨Nat.zero_le _, fun h => by omega⟩) (Keep.cons rfl (Keep.cons rfl (Keep.cons rfl (Keep.cons rfl (Keep.cons rfl (Keep.nil)))))) (tO) ?_
 rintro j ⟨hj, hq⟩
 refine g_seq ?_
 refine g_region ?_
 refine gl_v rfl (o_lss rfl rfl) ?_
 refine gl_nil ?_
 refine ge_then ?_
 refine g_seq ?_
 refine g_cond rfl (fun hc1 => ?_) (fun hc1 => ?_)
 ·
  replace hc1 := hs_ hc1
  obtain rfl : j = 0 := by omega
  refine g_skip ?_
  refine ge_then ?_
  refine g_seq ?_
  refine g_block ?_
  refine g_seq ?_
  refine g_region ?_
  refine gl_v rfl (o_idxS rfl rfl (by first | assumption | omega)) ?_
  refine gl_v rfl (o_loadS rfl (show [S [45]][0 * 1]? = some (S [45]) from rfl)) ?_
  refine gl_v rfl (o_assign rfl) ?_
  refine gl_nil ?_
  refine ge_then ?_
  refine g_seq ?_
  refine g_region ?_
  refine gl_v rfl (o_move rfl) ?_
  refine gl_v rfl (o_move rfl) ?_
  refine gl_v rfl (o_eqls rfl rfl) ?_
  refine gl_nil ?_
  refine ge_then ?_
  refine g_cond rfl (fun hc2 => ?_) (fun hc2 => ?_)
  ·
   replace hc2 := hs_ hc2
   have hd : takeV ω = wDash := by simpa using hc2
   refine g_seq ?_
   refine g_region ?_
   refine gl_v rfl (o_move rfl) ?_
   refine gl_v rfl (o_assign rfl) ?_
   refine gl_nil ?_
   refine ge_then ?_
   refine g_ret ?_
   refine ge_block_ret ?_
   refine ge_then_ret ?_
   refine ge_then_ret ?_
   refine ge_block_ret ?_
   refine ge_then_ret ?_
   refine ret1 (.inl rfl) rfl rfl [wrd p (nameS1 ω), cel b 9 [S [45]]] (⟨rfl, rfl⟩) (by rw [show nameS1 ω = takeS ω by unfold nameS1; rw [decide_eq_true hd]; simp]; exact (tO))
  ·
   replace hc2 := hs_ hc2
   have hd : ¬ takeV ω = wDash := by simpa using hc2
   refine g_skip ?_
   refine ge_block ?_
   refine ge_then ?_
   refine g_region ?_
   refine gl_v rfl (o_addR _ (by first | exact wr_i64 (by omega) | rfl) rfl rfl) ?_
   refine gl_v rfl (o_move rfl) ?_
   refine gl_nil ?_
   refine ge_round 1 ⟨Nat.le_refl _, fun _ => by assumption⟩ (by show 1 - 1 < 1 - 0; omega) (Keep.cons rfl (Keep.cons rfl (Keep.cons rfl (Keep.cons rfl (Keep.cons rfl Keep.nil))))) (tO)
 ·
  replace hc1 := hs_ hc1
  obtain rfl : j = 1 := by omega
  have hnd := hq rfl
  refine g_exit ?_
  refine ge_then_exit ?_
  refine ge_then_exit ?_
  refine ge_block_exit ?_
  refine ge_then ?_
  refine g_seq ?_
  refine g_seq ?_
  refine g_region ?_
  refine gl_v rfl (o_move rfl) ?_
  refine gl_c rfl (o_call rfl (Name_spec (takeV ω) (by omega)) pA) ?_
  rintro _ R ⟨_, ⟨rfl, rfl⟩, rfl⟩
  try simp only [List.cons_append, List.nil_append]
  refine gl_v rfl (o_not rfl) ?_
  refine gl_nil ?_
  refine ge_then ?_
  refine g_cond rfl (fun hc3 => ?_) (fun hc3 => ?_)
  ·
   replace hc3 := hs_ hc3
   have hn : isName (takeV ω) = false := by simpa using hc3
   refine g_imp (fun h s => Sel.to (A := wrd p (takeS ω)) sE s) ?_
   refine g_open .head ?_
   rintro ⟨a, c⟩ -
   simp only [List.cons_append, List.nil_append]
   refine g_region ?_
   refine gl_v rfl (o_move rfl) ?_
   refine gl_v rfl (o_nil rfl) ?_
   first | refine gl_v rfl (o_fldS rfl) ?_ | refine gl_v rfl (o_fld rfl) ?_
   first | refine gl_u (o_store rfl rfl rfl rfl) ?_ | refine gl_u (o_storeS rfl rfl rfl (by first | assumption | omega | simp)) ?_
   refine gl_nil ?_
   refine ge_then ?_
   refine g_seq ?_
   refine g_region ?_
   refine gl_v rfl (o_move rfl) ?_
   refine gl_v rfl (o_assign rfl) ?_
   refine gl_nil ?_
   refine ge_then ?_
   refine g_ret ?_
   refine ret1 (.inl rfl) rfl rfl [wrd p (nameS1 ω), cel b 9 [S [45]]] (⟨rfl, rfl⟩) (by rw [show nameS1 ω = ((takeS ω).1, true) by unfold nameS1; rw [hn, decide_eq_false hnd]; simp]; exact wrd_close (ω := ((takeS ω).1, true)) a c (tO))
  ·
   replace hc3 := hs_ hc3
   have hn : isName (takeV ω) = true := by simpa using hc3
   refine g_skip ?_
   refine ge_then ?_
   refine g_seq ?_
   refine g_region ?_
   refine gl_v rfl (o_move rfl) ?_
   refine gl_v rfl (o_assign rfl) ?_
   refine gl_nil ?_
   refine ge_then ?_
   refine g_ret ?_
   refine ret1 (.inl rfl) rfl rfl [wrd p (nameS1 ω), cel b 9 [S [45]]] (⟨rfl, rfl⟩) (by rw [show nameS1 ω = takeS ω by unfold nameS1; rw [hn]; simp]; exact (tO))

set_option maxRecDepth 8000 in
set_option maxHeartbeats 1000000 in
theorem rdn_spec {W : World} (hG : Gok W) (b4 p : Nat) (ω : Om) (hs : small ω) : FnS Tryd.prog 39 [ptr b4 0] [cel b4 62 [ptr p 0], wrd p ω, base W] (fun u Bs => u = I64 (numR (-65535) 65535 ω) ∧ Bs = [cel b4 62 [ptr p 0], wrd p (numS (-65535) 65535 ω), base W]) := by
 refine fn_body Tryd.func39 rfl rfl rfl ?_
 intro W0 R
 simp only [List.zipIdx_cons, List.zipIdx_nil, List.map_cons, List.map_nil, Nat.zero_add, Nat.reduceAdd, List.cons_append, List.nil_append]
 refine g_seq ?_
 refine g_region ?_
 refine gl_v rfl (o_assign rfl) ?_
 refine gl_nil ?_
 refine ge_then ?_
 refine g_seq ?_
 refine g_region ?_
 first | refine gl_v rfl (o_load rfl rfl) ?_ | refine gl_v rfl (o_loadS rfl rfl) ?_ | refine gl_v rfl (o_loadC rfl) ?_
 refine gl_c rfl (o_call rfl (number_spec hG p ω (-65535) 65535 (by omega) (small_take hs)) pA) ?_
 rintro _ R ⟨_, ⟨rfl, rfl⟩, rfl⟩
 try simp only [List.cons_append, List.nil_append]
 refine gl_v rfl (o_assign rfl) ?_
 refine gl_nil ?_
 refine ge_then ?_
 refine g_ret ?_
 refine ret1 (.inl rfl) rfl rfl [cel b4 62 [ptr p 0], wrd p (numS (-65535) 65535 ω), base W] (⟨rfl, rfl⟩) (tO)

set_option maxRecDepth 8000 in
set_option maxHeartbeats 1000000 in
theorem rdi_spec {W : World} (hG : Gok W) (b4 p : Nat) (ω : Om) (hs : small ω) : FnS Tryd.prog 40 [ptr b4 0] [cel b4 62 [ptr p 0], wrd p ω, base W] (fun u Bs => u = U64 ((numR 0 big50 ω).toNat : Nat) ∧ Bs = [cel b4 62 [ptr p 0], wrd p (numS 0 big50 ω), base W]) := by
 refine fn_body Tryd.func40 rfl rfl rfl ?_
 intro W0 R
 simp only [List.zipIdx_cons, List.zipIdx_nil, List.map_cons, List.map_nil, Nat.zero_add, Nat.reduceAdd, List.cons_append, List.nil_append]
 have hnr := numR_range (lo := 0) (hi := big50) ⟨by decide, by decide⟩ ω
 unfold big50 at hnr
 refine g_seq ?_
 refine g_region ?_
 refine gl_v rfl (o_assign rfl) ?_
 refine gl_nil ?_
 refine ge_then ?_
 refine g_seq ?_
 refine g_region ?_
 first | refine gl_v rfl (o_load rfl rfl) ?_ | refine gl_v rfl (o_loadS rfl rfl) ?_ | refine gl_v rfl (o_loadC rfl) ?_
 refine gl_c rfl (o_call rfl (number_spec hG p ω 0 big50 (by decide) (small_take hs)) pA) ?_
 rintro _ R ⟨_, ⟨rfl, rfl⟩, rfl⟩
 try simp only [List.cons_append, List.nil_append]
 refine gl_v rfl (o_convR (((numR 0 big50 ω).toNat : Nat) : Int) (by rw [wr_u64 (by unfold big50; omega)]; unfold big50; omega) rfl) ?_
 refine gl_v rfl (o_assign rfl) ?_
 refine gl_nil ?_
 refine ge_then ?_
 refine g_ret ?_
 refine ret1 (.inl rfl) rfl rfl [cel b4 62 [ptr p 0], wrd p (numS 0 big50 ω), base W] (⟨rfl, rfl⟩) (tO)

set_option maxRecDepth 8000 in
set_option maxHeartbeats 1000000 in
theorem take_op (p : Nat) (w : By) (ws : List By) (b : Bool) (a : Option Addr) (c : Nat) : FnS Tryd.prog 29 [ptr p 0] [cel p 66 [.slice a (ws.length + 1) c, .bool b], rdo a c (ws.length + 1) (wsC (w :: ws))] (fun u Bs => u = S w ∧ Bs = [cel p 66 [.slice (if c = 1 then a else a.map (fun x : Addr => x.add (1 * 1))) (ws.length + 1 - 1) (c - 1), .bool b], rdo a c (ws.length + 1) (wsC (w :: ws))]) := by
 refine fn_body Tryd.func29 rfl rfl rfl ?_
 intro W0 R
 simp only [List.zipIdx_cons, List.zipIdx_nil, List.map_cons, List.map_nil, Nat.zero_add, Nat.reduceAdd, List.cons_append, List.nil_append]
 refine g_seq ?_
 refine g_region ?_
 refine gl_v rfl (o_assign rfl) ?_
 refine gl_nil ?_
 refine ge_then ?_
 refine g_seq ?_
 refine g_seq ?_
 refine g_region ?_
 refine gl_v rfl (o_move rfl) ?_
 refine gl_v rfl (o_nil rfl) ?_
 first | refine gl_v rfl (o_fldS rfl) ?_ | refine gl_v rfl (o_fld rfl) ?_
 first | refine gl_v rfl (o_load rfl rfl) ?_ | refine gl_v rfl (o_loadS rfl rfl) ?_ | refine gl_v rfl (o_loadC rfl) ?_
 first | refine gl_v rfl (o_len rfl) ?_ | refine gl_v rfl (o_lenL rfl) ?_
 refine gl_v rfl (o_is (c := false) (by exact decide_eq_false (by simp; omega)) (o_eql rfl rfl)) ?_
 refine gl_nil ?_
 refine ge_then ?_
 refine g_cond_false rfl ?_
 refine g_skip ?_
 refine ge_then ?_
 refine g_seq ?_
 refine g_region ?_
 refine gl_v rfl (o_move rfl) ?_
 refine gl_v rfl (o_nil rfl) ?_
 first | refine gl_v rfl (o_fldS rfl) ?_ | refine gl_v rfl (o_fld rfl) ?_
 first | refine gl_v rfl (o_load rfl rfl) ?_ | refine gl_v rfl (o_loadS rfl rfl) ?_ | refine gl_v rfl (o_loadC rfl) ?_
 refine gl_v rfl (o_idxS (j := 0) rfl rfl (show 0 < (w :: ws).length from Nat.succ_pos _)) ?_
 refine gl_v rfl (o_loadS rfl (show (wsC (w :: ws))[0]? = some (S w) from rfl)) ?_
 refine gl_v rfl (o_assign rfl) ?_
 refine gl_nil ?_
 refine ge_then ?_
 refine g_seq ?_
 refine g_region ?_
 refine gl_v rfl (o_move rfl) ?_
 refine gl_v rfl (o_move rfl) ?_
 refine gl_v rfl (o_nil rfl) ?_
 first | refine gl_v rfl (o_fldS rfl) ?_ | refine gl_v rfl (o_fld rfl) ?_
 first | refine gl_v rfl (o_load rfl rfl) ?_ | refine gl_v rfl (o_loadS rfl rfl) ?_ | refine gl_v rfl (o_loadC rfl) ?_
 refine gl_v rfl (o_slFrom (i := 1) rfl rfl (show 1 ≤ (w :: ws).length from Nat.succ_le_succ (Nat.zero_le _))) ?_
 refine gl_v rfl (o_nil rfl) ?_
 first | refine gl_v rfl (o_fldS rfl) ?_ | refine gl_v rfl (o_fld rfl) ?_
 first | refine gl_u (o_store rfl rfl rfl rfl) ?_ | refine gl_u (o_storeS rfl rfl rfl (by first | assumption | omega | simp)) ?_
 refine gl_nil ?_
 refine ge_then ?_
 refine g_seq ?_
 refine g_region ?_
 refine gl_v rfl (o_move rfl) ?_
 refine gl_v rfl (o_assign rfl) ?_
 refine gl_nil ?_
 refine ge_then ?_
 refine g_ret ?_
 refine ret1 (.inl rfl) rfl rfl _ (⟨rfl, rfl⟩) (tO)

set_option maxRecDepth 8000 in
set_option maxHeartbeats 2000000 in
theorem rest_spec {W : World} (hG : Gok W) (b4 p b8 : Nat) (e : Evt) (ω : Om) (hs : small ω) : FnS Tryd.prog 42 [ptr p 0, ptr b8 0, .func (.func 39) #[] #[ptr b4 0], .func (.func 40) #[] #[ptr b4 0]] [cel b8 37 (evtC (e)), wrd p ω, cel b4 62 [ptr p 0], base W] (fun u Bs => u = .tuple #[] ∧ Bs = [cel b8 37 (evtC ((runV (restF e.kind) e ω).1)), wrd p (runV (restF e.kind) e ω).2, cel b4 62 [ptr p 0], base W]) := by
 refine fn_body Tryd.func42 rfl rfl rfl ?_
 intro W0 R
 simp only [List.zipIdx_cons, List.zipIdx_nil, List.map_cons, List.map_nil, Nat.zero_add, Nat.reduceAdd, List.cons_append, List.nil_append]
 refine g_seq ?_
 refine g_region ?_
 refine gl_v rfl (o_move rfl) ?_
 refine gl_v rfl (o_nil rfl) ?_
 first | refine gl_v rfl (o_fldS rfl) ?_ | refine gl_v rfl (o_fld rfl) ?_
 first | refine gl_v rfl (o_load rfl rfl) ?_ | refine gl_v rfl (o_loadS rfl rfl) ?_ | refine gl_v rfl (o_loadC rfl) ?_
 refine gl_nil ?_
 refine ge_then ?_
 refine g_block ?_
 refine g_cut (fun act wo => ∃ (e' : Evt) (ω' : Om), runV (restF e.kind) e ω = runV [77] e' ω' ∧ small ω' ∧ HasSl Tryd.f42.ntmps [(0, ptr p 0), (1, ptr b8 0)] act ∧ St W0 (cel b8 37 (evtC (e')) :: wrd p ω' :: cel b4 62 [ptr p 0] :: base W :: R) wo) ?_ ?_
 ·
  refine g_block ?_
  refine g_seq ?_
  refine g_block ?_
  refine g_seq ?_
  refine g_block ?_
  refine g_seq ?_
  refine g_block ?_
  refine g_seq ?_
  refine g_seq ?_
  refine g_cut (fun act wo => ∃ b : Bool, (b = true ↔ e.kind = 4 ∨ e.kind = 3 ∨ e.kind = 5) ∧ HasSl Tryd.f42.ntmps [(12, .bool b), (11, I64 e.kind), (0, ptr p 0), (1, ptr b8 0), (2, .func (.func 39) #[] #[ptr b4 0]), (3, .func (.func 40) #[] #[ptr b4 0])] act ∧ St W0 (cel b8 37 (evtC (e)) :: wrd p ω :: cel b4 62 [ptr p 0] :: base W :: R) wo) ?_ ?_
  ·
   refine g_seq ?_
   refine g_region ?_
   refine gl_v rfl (o_eql rfl rfl) ?_
   refine gl_v rfl (o_assign rfl) ?_
   refine gl_nil ?_
   refine ge_then ?_
   refine g_cond rfl (fun hc1 => ?_) (fun hc1 => ?_)
   ·
    replace hc1 := hs_ hc1
    try have hk12 := hb.1 hc1
    refine g_skip ?_
    exact fun act wo hsl st => ⟨_, (by simp only [decide_eq_true_eq]; omega), hsl.keep (Keep.cons rfl (Keep.cons rfl (Keep.cons rfl (Keep.cons rfl (Keep.cons rfl (Keep.cons rfl (Keep.nil))))))), st.imp (tO)⟩
   ·
    replace hc1 := hs_ hc1
    try have hk12 : ¬ _ := fun h9 => absurd (hb.2 h9) (by rw [hc1]; decide)
    refine g_seq ?_
    refine g_region ?_
    refine gl_v rfl (o_eql rfl rfl) ?_
    refine gl_v rfl (o_assign rfl) ?_
    refine gl_nil ?_
    refine ge_then ?_
    refine g_cond rfl (fun hc2 => ?_) (fun hc2 => ?_)
    ·
     replace hc2 := hs_ hc2
     try have hk12 := hb.1 hc2
     refine g_skip ?_
     exact fun act wo hsl st => ⟨_, (by simp only [decide_eq_true_eq]; omega), hsl.keep (Keep.cons rfl (Keep.cons rfl (Keep.cons rfl (Keep.cons rfl (Keep.cons rfl (Keep.cons rfl (Keep.nil))))))), st.imp (tO)⟩
    ·
     replace hc2 := hs_ hc2
     try have hk12 : ¬ _ := fun h9 => absurd (hb.2 h9) (by rw [hc2]; decide)
     refine g_region ?_
     refine gl_v rfl (o_eql rfl rfl) ?_
     refine gl_v rfl (o_assign rfl) ?_
     refine gl_nil ?_
     exact fun act wo hsl st => ⟨_, (by simp only [decide_eq_true_eq]; omega), hsl.keep (Keep.cons rfl (Keep.cons rfl (Keep.cons rfl (Keep.cons rfl (Keep.cons rfl (Keep.cons rfl (Keep.nil))))))), st.imp (tO)⟩
  ·
   rintro act wo ⟨b, hb, hsl, st⟩
   refine g_of ?_ hsl st
   clear hsl st act wo
   refine g_cond rfl (fun hc3 => ?_) (fun hc3 => ?_)
   ·
    replace hc3 := hs_ hc3
    try have hk12 := hb.1 hc3
    refine g_exit ?_
    refine ge_then_exit ?_
    refine ge_then_exit ?_
    refine ge_block_exit ?_
    refine ge_then ?_
    refine g_seq ?_
    refine g_seq ?_
    refine g_region ?_
    refine gl_v rfl (o_move rfl) ?_
    refine gl_v rfl (o_move rfl) ?_
    refine gl_c rfl (o_callV rfl rfl (rdi_spec hG b4 p (ω) (hs)) pA) ?_
    rintro _ R ⟨_, ⟨rfl, rfl⟩, rfl⟩
    try simp only [List.cons_append, List.nil_append]
    refine gl_v rfl (o_nil rfl) ?_
    first | refine gl_v rfl (o_fldS rfl) ?_ | refine gl_v rfl (o_fld rfl) ?_
    first | refine gl_u (o_store rfl rfl rfl rfl) ?_ | refine gl_u (o_storeS rfl rfl rfl (by first | assumption | omega | simp)) ?_
    refine gl_nil ?_
    refine ge_then ?_
    refine g_seq ?_
    refine g_region ?_
    refine gl_v rfl (o_move rfl) ?_
    refine gl_v rfl (o_nil rfl) ?_
    first | refine gl_v rfl (o_fldS rfl) ?_ | refine gl_v rfl (o_fld rfl) ?_
    first | refine gl_v rfl (o_load rfl rfl) ?_ | refine gl_v rfl (o_loadS rfl rfl) ?_ | refine gl_v rfl (o_loadC rfl) ?_
    refine gl_v rfl (o_eql rfl rfl) ?_
    refine gl_nil ?_
    refine ge_then ?_
    refine g_cond rfl (fun hc4 => ?_) (fun hc4 => ?_)
    ·
     replace hc4 := hs_ hc4
     refine g_region ?_
     refine gl_v rfl (o_move rfl) ?_
     refine gl_v rfl (o_move rfl) ?_
     refine gl_c rfl (o_call rfl (name0_spec p (numS 0 big50 (ω)) (small_take (small_num hs))) pA) ?_
     rintro _ R ⟨_, ⟨rfl, rfl⟩, rfl⟩
     try simp only [List.cons_append, List.nil_append]
     refine gl_v rfl (o_nil rfl) ?_
     first | refine gl_v rfl (o_fldS rfl) ?_ | refine gl_v rfl (o_fld rfl) ?_
     first | refine gl_u (o_store rfl rfl rfl rfl) ?_ | refine gl_u (o_storeS rfl rfl rfl (by first | assumption | omega | simp)) ?_
     refine gl_nil ?_
     refine ge_then ?_
     refine g_exit ?_
     refine ge_block_pass rfl ?_
     refine ge_then_exit ?_
     refine ge_block_pass rfl ?_
     refine ge_then_exit ?_
     refine ge_block_pass rfl ?_
     refine ge_then_exit ?_
     refine ge_block_exit ?_
     refine ret0 (.inr rfl) rfl [cel b8 37 (evtC ((runV [105, 77] e ω).1)), wrd p (runV [105, 77] e ω).2, cel b4 62 [ptr p 0], base W] (⟨rfl, by rw [show restF e.kind = [105, 77] by unfold restF; rw [if_pos (by omega)]]⟩) (tO)
    ·
     replace hc4 := hs_ hc4
     refine g_skip ?_
     refine ge_then ?_
     refine g_exit ?_
     refine ge_block_pass rfl ?_
     refine ge_then_exit ?_
     refine ge_block_pass rfl ?_
     refine ge_then_exit ?_
     refine ge_block_pass rfl ?_
     refine ge_then_exit ?_
     refine ge_block_exit ?_
     refine ret0 (.inr rfl) rfl [cel b8 37 (evtC ((runV [105] e ω).1)), wrd p (runV [105] e ω).2, cel b4 62 [ptr p 0], base W] (⟨rfl, by rw [show restF e.kind = [105] by unfold restF; rw [if_neg (by omega), if_pos (by omega)]]⟩) (tO)
   ·
    replace hc3 := hs_ hc3
    try have hk12 : ¬ _ := fun h9 => absurd (hb.2 h9) (by rw [hc3]; decide)
    refine g_skip ?_
    refine ge_then ?_
    refine g_seq ?_
    refine g_seq ?_
    refine g_region ?_
    refine gl_v rfl (o_eql rfl rfl) ?_
    refine gl_v rfl (o_assign rfl) ?_
    refine gl_nil ?_
    refine ge_then ?_
    refine g_cond rfl (fun hc5 => ?_) (fun hc5 => ?_)
    ·
     replace hc5 := hs_ hc5
     refine g_exit ?_
     refine ge_then_exit ?_
     refine ge_then_exit ?_
     refine ge_block_pass rfl ?_
     refine ge_then_exit ?_
     refine ge_block_exit ?_
     refine ge_then ?_
     refine g_seq ?_
     refine g_seq ?_
     refine g_region ?_
     refine gl_v rfl (o_move rfl) ?_
     refine gl_v rfl (o_move rfl) ?_
     refine gl_c rfl (o_callV rfl rfl (rdn_spec hG b4 p (ω) (hs)) pA) ?_
     rintro _ R ⟨_, ⟨rfl, rfl⟩, rfl⟩
     try simp only [List.cons_append, List.nil_append]
     refine gl_v rfl (o_nil rfl) ?_
     first | refine gl_v rfl (o_fldS rfl) ?_ | refine gl_v rfl (o_fld rfl) ?_
     first | refine gl_u (o_store rfl rfl rfl rfl) ?_ | refine gl_u (o_storeS rfl rfl rfl (by first | assumption | omega | simp)) ?_
     refine gl_nil ?_
     refine ge_then ?_
     refine g_seq ?_
     refine g_region ?_
     refine gl_v rfl (o_move rfl) ?_
     refine gl_v rfl (o_move rfl) ?_
     refine gl_c rfl (o_callV rfl rfl (rdn_spec hG b4 p (numS (-65535) 65535 (ω)) (small_num hs)) pA) ?_
     rintro _ R ⟨_, ⟨rfl, rfl⟩, rfl⟩
     try simp only [List.cons_append, List.nil_append]
     refine gl_v rfl (o_nil rfl) ?_
     first | refine gl_v rfl (o_fldS rfl) ?_ | refine gl_v rfl (o_fld rfl) ?_
     first | refine gl_u (o_store rfl rfl rfl rfl) ?_ | refine gl_u (o_storeS rfl rfl rfl (by first | assumption | omega | simp)) ?_
     refine gl_nil ?_
     refine ge_then ?_
     refine g_region ?_
     refine gl_v rfl (o_move rfl) ?_
     refine gl_v rfl (o_move rfl) ?_
     refine gl_c rfl (o_call rfl (name0_spec p (numS (-65535) 65535 (numS (-65535) 65535 (ω))) (small_take (small_num (small_num hs)))) pA) ?_
     rintro _ R ⟨_, ⟨rfl, rfl⟩, rfl⟩
     try simp only [List.cons_append, List.nil_append]
     refine gl_v rfl (o_nil rfl) ?_
     first | refine gl_v rfl (o_fldS rfl) ?_ | refine gl_v rfl (o_fld rfl) ?_
     first | refine gl_u (o_store rfl rfl rfl rfl) ?_ | refine gl_u (o_storeS rfl rfl rfl (by first | assumption | omega | simp)) ?_
     refine gl_nil ?_
     refine ge_then ?_
     refine g_exit ?_
     refine ge_block_pass rfl ?_
     refine ge_then_exit ?_
     refine ge_block_pass rfl ?_
     refine ge_then_exit ?_
     refine ge_block_exit ?_
     refine ret0 (.inr rfl) rfl [cel b8 37 (evtC ((runV [70, 87, 77] e ω).1)), wrd p (runV [70, 87, 77] e ω).2, cel b4 62 [ptr p 0], base W] (⟨rfl, by rw [show restF e.kind = [70, 87, 77] by unfold restF; rw [if_neg (by omega), if_neg (by omega), if_pos (by omega)]]⟩) (tO)
    ·
     replace hc5 := hs_ hc5
     refine g_skip ?_
     refine ge_then ?_
     refine g_seq ?_
     refine g_seq ?_
     refine g_region ?_
     refine gl_v rfl (o_eql rfl rfl) ?_
     refine gl_v rfl (o_assign rfl) ?_
     refine gl_nil ?_
     refine ge_then ?_
     refine g_cond rfl (fun hc6 => ?_) (fun hc6 => ?_)
     ·
      replace hc6 := hs_ hc6
      refine g_exit ?_
      refine ge_then_exit ?_
      refine ge_then_exit ?_
      refine ge_block_pass rfl ?_
      refine ge_then_exit ?_
      refine ge_block_pass rfl ?_
      refine ge_then_exit ?_
      refine ge_block_exit ?_
      refine ge_then ?_
      refine g_region ?_
      refine gl_v rfl (o_move rfl) ?_
      refine gl_v rfl (o_move rfl) ?_
      refine gl_c rfl (o_callV rfl rfl (rdn_spec hG b4 p (ω) (hs)) pA) ?_
      rintro _ R ⟨_, ⟨rfl, rfl⟩, rfl⟩
      try simp only [List.cons_append, List.nil_append]
      refine gl_v rfl (o_nil rfl) ?_
      first | refine gl_v rfl (o_fldS rfl) ?_ | refine gl_v rfl (o_fld rfl) ?_
      first | refine gl_u (o_store rfl rfl rfl rfl) ?_ | refine gl_u (o_storeS rfl rfl rfl (by first | assumption | omega | simp)) ?_
      refine gl_nil ?_
      refine ge_block ?_
      exact fun act wo hsl st => ⟨{ e with from' := numR (-65535) 65535 ω }, numS (-65535) 65535 (ω), by rw [show restF e.kind = [70, 77] by unfold restF; rw [if_neg (by omega), if_neg (by omega), if_neg (by omega), if_pos (by omega)]]; rfl, small_num hs, hsl.keep (Keep.cons rfl (Keep.cons rfl (Keep.nil))), st.imp (tO)⟩
     ·
      replace hc6 := hs_ hc6
      refine g_skip ?_
      refine ge_then ?_
      refine g_cut (fun act wo => ∃ b : Bool, (b = true ↔ e.kind = 8 ∨ e.kind = 9) ∧ HasSl Tryd.f42.ntmps [(20, .bool b), (11, I64 e.kind), (0, ptr p 0), (1, ptr b8 0), (2, .func (.func 39) #[] #[ptr b4 0]), (3, .func (.func 40) #[] #[ptr b4 0])] act ∧ St W0 (cel b8 37 (evtC (e)) :: wrd p ω :: cel b4 62 [ptr p 0] :: base W :: R) wo) ?_ ?_
      ·
       refine g_seq ?_
       refine g_region ?_
       refine gl_v rfl (o_eql rfl rfl) ?_
       refine gl_v rfl (o_assign rfl) ?_
       refine gl_nil ?_
       refine ge_then ?_
       refine g_cond rfl (fun hc7 => ?_) (fun hc7 => ?_)
       ·
        replace hc7 := hs_ hc7
        try have hk20 := hb.1 hc7
        refine g_skip ?_
        exact fun act wo hsl st => ⟨_, (by simp only [decide_eq_true_eq]; omega), hsl.keep (Keep.cons rfl (Keep.cons rfl (Keep.cons rfl (Keep.cons rfl (Keep.cons rfl (Keep.cons rfl (Keep.nil))))))), st.imp (tO)⟩
       ·
        replace hc7 := hs_ hc7
        try have hk20 : ¬ _ := fun h9 => absurd (hb.2 h9) (by rw [hc7]; decide)
        refine g_region ?_
        refine gl_v rfl (o_eql rfl rfl) ?_
        refine gl_v rfl (o_assign rfl) ?_
        refine gl_nil ?_
        exact fun act wo hsl st => ⟨_, (by simp only [decide_eq_true_eq]; omega), hsl.keep (Keep.cons rfl (Keep.cons rfl (Keep.cons rfl (Keep.cons rfl (Keep.cons rfl (Keep.cons rfl (Keep.nil))))))), st.imp (tO)⟩
      ·
       rintro act wo ⟨b, hb, hsl, st⟩
       refine g_of ?_ hsl st
       clear hsl st act wo
       refine g_cond rfl (fun hc8 => ?_) (fun hc8 => ?_)
       ·
        replace hc8 := hs_ hc8
        try have hk20 := hb.1 hc8
        refine g_exit ?_
        refine ge_then_exit ?_
        refine ge_block_pass rfl ?_
        refine ge_then_exit ?_
        refine ge_block_pass rfl ?_
        refine ge_then_exit ?_
        refine ge_block_pass rfl ?_
        refine ge_then_exit ?_
        refine ge_block_exit ?_
        exact fun act wo hsl st => ⟨e, ω, by rw [show restF e.kind = [77] by unfold restF; rw [if_neg (by omega), if_neg (by omega), if_neg (by omega), if_neg (by omega), if_pos (by omega)]], hs, hsl.keep (Keep.cons rfl (Keep.cons rfl (Keep.nil))), st.imp (tO)⟩
       ·
        replace hc8 := hs_ hc8
        try have hk20 : ¬ _ := fun h9 => absurd (hb.2 h9) (by rw [hc8]; decide)
        refine g_skip ?_
        refine ge_then ?_
        refine g_exit ?_
        refine ge_block_pass rfl ?_
        refine ge_then_exit ?_
        refine ge_block_pass rfl ?_
        refine ge_then_exit ?_
        refine ge_block_pass rfl ?_
        refine ge_then_exit ?_
        refine ge_block_pass rfl ?_
        refine ge_then_exit ?_
        refine ge_block_exit ?_
        refine ret0 (.inr rfl) rfl [cel b8 37 (evtC ((runV [] e ω).1)), wrd p (runV [] e ω).2, cel b4 62 [ptr p 0], base W] (⟨rfl, by rw [show restF e.kind = [] by unfold restF; rw [if_neg (by omega), if_neg (by omega), if_neg (by omega), if_neg (by omega), if_neg (by omega)]]⟩) (tO)
 ·
  rintro act wo ⟨e', ω', hrun, hs', hsl, st⟩
  refine g_of ?_ hsl st
  clear hsl st act wo
  refine g_seq ?_
  refine g_region ?_
  refine gl_v rfl (o_move rfl) ?_
  refine gl_v rfl (o_move rfl) ?_
  refine gl_c rfl (o_call rfl (name0_spec p (ω') (small_take (hs'))) pA) ?_
  rintro _ R ⟨_, ⟨rfl, rfl⟩, rfl⟩
  try simp only [List.cons_append, List.nil_append]
  refine gl_v rfl (o_nil rfl) ?_
  first | refine gl_v rfl (o_fldS rfl) ?_ | refine gl_v rfl (o_fld rfl) ?_
  first | refine gl_u (o_store rfl rfl rfl rfl) ?_ | refine gl_u (o_storeS rfl rfl rfl (by first | assumption | omega | simp)) ?_
  refine gl_nil ?_
  refine ge_then ?_
  refine g_exit ?_
  refine ge_block_exit ?_
  refine ret0 (.inr rfl) rfl [cel b8 37 (evtC ((runV (restF e.kind) e ω).1)), wrd p (runV (restF e.kind) e ω).2, cel b4 62 [ptr p 0], base W] (⟨rfl, rfl⟩) (by rw [hrun]; exact (tO))

set_option maxRecDepth 8000 in
set_option maxHeartbeats 1000000 in
theorem verbs_spec : FnS Tryd.prog 34 [] [] (fun u Bs => u = .agg (verbsL.map fun w => S w).toArray ∧ Bs = []) := by
 refine fn_body Tryd.func34 rfl rfl rfl ?_
 intro W0 R
 simp only [List.zipIdx_cons, List.zipIdx_nil, List.map_cons, List.map_nil, Nat.zero_add, Nat.reduceAdd, List.cons_append, List.nil_append]
 refine g_seq ?_
 refine g_region ?_
 refine gl_n rfl (o_alloc) ?_
 rintro _ _ ⟨b0, rfl, rfl⟩
 refine gl_nil ?_
 refine ge_then ?_
 refine g_seq ?_
 refine g_region ?_
 refine gl_v rfl (o_buildArr rfl rfl) ?_
 first | refine gl_u (o_storeSA rfl rfl rfl rfl (by simp; omega) (by simp)) ?_ | refine gl_u (o_storeA rfl rfl rfl rfl rfl) ?_
 refine gl_nil ?_
 refine ge_then ?_
 refine g_ret ?_
 refine ret1c (.inl rfl) rfl rfl rfl rfl _ (⟨rfl, rfl⟩) (tO)

set_option maxRecDepth 8000 in
set_option maxHeartbeats 3000000 in
theorem ReadEvent_spec {W : World} (hG : Gok W) (hm : ∃ m, W.cell? ⟨Tryd.spTm_ren.g 1, 0, none⟩ = some (.int .i64 m)) (l : By) (hl : l.length ≤ 4294967280) : FnS Tryd.prog 15 [S l] [base W] (fun u Bs => u = (match readV l with | some e => Value.tuple #[.agg (evtC e).toArray, I64 0] | none => Value.tuple #[.agg (evtC evt0).toArray, I64 60]) ∧ Bs = [base W]) := by
 refine fn_body Tryd.func15 rfl rfl rfl ?_
 intro W0 R
 simp only [List.zipIdx_cons, List.zipIdx_nil, List.map_cons, List.map_nil, Nat.zero_add, Nat.reduceAdd, List.cons_append, List.nil_append]
 obtain ⟨w0, ws, hsp⟩ := split_cons (c := 32) (l := l)
 have hsm0 : small (w0 :: ws, false) := fun w hw => by have := split_wlen (c := 32) l w (by rw [hsp]; exact hw); omega
 have hsm : small (ws, false) := fun w hw => hsm0 w (List.mem_cons_of_mem _ hw)
 refine g_seq ?_
 refine g_region ?_
 refine gl_n rfl (o_alloc) ?_
 rintro _ _ ⟨b2, rfl, rfl⟩
 refine gl_v rfl (o_assign rfl) ?_
 refine gl_nil ?_
 refine ge_then ?_
 refine g_seq ?_
 refine g_region ?_
 refine gl_v rfl (o_move rfl) ?_
 refine gl_c rfl (o_call rfl (Split_spec hm l 32 (by omega)) pA) ?_
 rintro _ R ⟨_, ⟨bq, rfl, rfl⟩, rfl⟩
 try simp only [List.cons_append, List.nil_append]
 rw [hsp]
 refine gl_v rfl (o_build rfl rfl) ?_
 refine gl_n rfl (o_boxA rfl) ?_
 rintro _ _ ⟨b14, rfl, rfl⟩
 refine gl_n rfl (o_alloc) ?_
 rintro _ _ ⟨b4, rfl, rfl⟩
 first | refine gl_u (o_store rfl rfl rfl rfl) ?_ | refine gl_u (o_storeS rfl rfl rfl (by first | assumption | omega | simp)) ?_
 refine gl_nil ?_
 refine ge_then ?_
 refine g_seq ?_
 refine g_region ?_
 refine gl_v rfl (o_func rfl rfl) ?_
 refine gl_v rfl (o_assign rfl) ?_
 refine gl_nil ?_
 refine ge_then ?_
 refine g_seq ?_
 refine g_region ?_
 refine gl_v rfl (o_func rfl rfl) ?_
 refine gl_v rfl (o_assign rfl) ?_
 refine gl_nil ?_
 refine ge_then ?_
 refine g_seq ?_
 refine g_imp (fun h s => wrd_close (p := b14) (ω := (w0 :: ws, false)) (some ⟨bq, 0, none⟩) (w0 :: ws).length (As := cel b14 66 [.slice (some ⟨bq, 0, none⟩) (w0 :: ws).length (w0 :: ws).length, .bool false] :: cel bq 9 (wsC (w0 :: ws)) :: _) (fun h s => Sat.tail (fun h s => rdo_cel (ws := w0 :: ws) h s) s) h (Part.to (m := [cel b14 66 [.slice (some ⟨bq, 0, none⟩) (w0 :: ws).length (w0 :: ws).length, .bool false], cel bq 9 (wsC (w0 :: ws))]) pA s)) ?_
 try simp only [List.append_eq, List.nil_append, List.cons_append]
 refine g_region ?_
 first | refine gl_v rfl (o_load rfl rfl) ?_ | refine gl_v rfl (o_loadS rfl rfl) ?_ | refine gl_v rfl (o_loadC rfl) ?_
 refine gl_c rfl (o_call rfl (take_spec b14 (w0 :: ws, false)) pA) ?_
 rintro _ R ⟨_, ⟨rfl, rfl⟩, rfl⟩
 try simp only [List.cons_append, List.nil_append]
 rw [show takeS (w0 :: ws, false) = (ws, false) by unfold takeS; simp, show takeV (w0 :: ws, false) = w0 from rfl]
 refine gl_v rfl (o_assign rfl) ?_
 refine gl_nil ?_
 refine ge_then ?_
 refine g_seq ?_
 refine g_region ?_
 refine gl_n rfl (o_alloc) ?_
 rintro _ _ ⟨b8, rfl, rfl⟩
 refine gl_nil ?_
 refine ge_then ?_
 refine g_seq ?_
 refine g_seq ?_
 refine g_region ?_
 refine gl_c rfl (o_call rfl (verbs_spec) pA) ?_
 rintro _ R ⟨_, ⟨rfl, rfl⟩, rfl⟩
 try simp only [List.cons_append, List.nil_append]
 refine gl_v rfl (o_move rfl) ?_
 refine gl_nil ?_
 refine ge_then ?_
 refine g_block ?_
 refine g_loop (ι := Nat) (fun i => i ≤ 16) (fun i => [(20, I64 i), (19, .agg (verbsL.map fun w => S w).toArray), (8, ptr b8 0), (7, S w0), (6, .func (.func 40) #[] #[ptr b4 0]), (5, .func (.func 39) #[] #[ptr b4 0]), (4, ptr b4 0), (2, ptr b2 0)]) (fun i => cel b8 37 (evtC ({ evt0 with kind := kUp w0 i })) :: wrd b14 (ws, false) :: cel b4 62 [ptr b14 0] :: cel b2 37 (evtC evt0) :: base W :: R) (fun i => 16 - i) 0 (Nat.zero_le _) (Keep.cons rfl (Keep.cons rfl (Keep.cons rfl (Keep.cons rfl (Keep.cons rfl (Keep.cons rfl (Keep.cons rfl (Keep.cons rfl (Keep.nil))))))))) (tO) ?_
 rintro i hi
 refine g_seq ?_
 refine g_region ?_
 refine gl_v rfl (o_lss rfl rfl) ?_
 refine gl_nil ?_
 refine ge_then ?_
 refine g_seq ?_
 refine g_cond rfl (fun hc1 => ?_) (fun hc1 => ?_)
 ·
  replace hc1 := hs_ hc1
  refine g_skip ?_
  refine ge_then ?_
  refine g_seq ?_
  refine g_block ?_
  refine g_seq ?_
  refine g_region ?_
  refine gl_v rfl (o_move rfl) ?_
  refine gl_v rfl (o_indexV rfl rfl rfl (by omega) (verb_at (by omega))) ?_
  refine gl_v rfl (o_assign rfl) ?_
  refine gl_v rfl (o_assign rfl) ?_
  refine gl_nil ?_
  refine ge_then ?_
  refine g_seq ?_
  refine g_region ?_
  refine gl_v rfl (o_move rfl) ?_
  refine gl_v rfl (o_gtr rfl rfl) ?_
  refine gl_v rfl (o_move rfl) ?_
  refine gl_join (d := 30) 4 (.bool (decide (0 < i) && decide (vb i = w0))) ?_ (fun jk30 => ?_)
  rotate_left
  ·
   refine gl_g rfl rfl (fun hc2 => ?_) (fun hc2 => ?_) rfl
   ·
    have hc2' := hc2
    replace hc2' := hs_ hc2'
    refine gl_v rfl (o_move rfl) ?_
    refine gl_gT rfl rfl hc2 ?_
    refine gl_v rfl (o_move rfl) ?_
    refine gl_gT rfl rfl hc2 ?_
    refine gl_v rfl (o_eqls rfl rfl) ?_
    refine gl_v rfl (o_pickT hc2 rfl rfl) ?_
    first | exact jk30 _ (KeepS.top (by repeat (first | exact KeepS.refl _ | refine KeepS.push ?_ rfl)) (jval (by first | rfl | (simp only [hc2, Bool.not_true, Bool.not_false, Bool.false_and, Bool.true_and, Bool.true_or, Bool.false_or]; done) | (simp [hc2]; done) | simp_all))) | exact gl_imp (tO) (jk30 _ (KeepS.top (by repeat (first | exact KeepS.refl _ | refine KeepS.push ?_ rfl)) (jval (by first | rfl | (simp only [hc2, Bool.not_true, Bool.not_false, Bool.false_and, Bool.true_and, Bool.true_or, Bool.false_or]; done) | (simp [hc2]; done) | simp_all))))
   ·
    have hc2' := hc2
    replace hc2' := hs_ hc2'
    simp only [putO]
    refine gl_gF rfl rfl hc2 rfl ?_
    refine gl_gF rfl rfl hc2 rfl ?_
    refine gl_v rfl (o_pickF hc2 rfl rfl) ?_
    first | exact jk30 _ (KeepS.top (by repeat (first | exact KeepS.refl _ | refine KeepS.push ?_ rfl)) (jval (by first | rfl | (simp only [hc2, Bool.not_true, Bool.not_false, Bool.false_and, Bool.true_and, Bool.true_or, Bool.false_or]; done) | (simp [hc2]; done) | simp_all))) | exact gl_imp (tO) (jk30 _ (KeepS.top (by repeat (first | exact KeepS.refl _ | refine KeepS.push ?_ rfl)) (jval (by first | rfl | (simp only [hc2, Bool.not_true, Bool.not_false, Bool.false_and, Bool.true_and, Bool.true_or, Bool.false_or]; done) | (simp [hc2]; done) | simp_all))))
  refine gl_nil ?_
  refine ge_then ?_
  refine g_cond rfl (fun hc3 => ?_) (fun hc3 => ?_)
  ·
   replace hc3 := hs_ hc3
   have hki : kUp w0 (i + 1) = i := by unfold kUp; rw [if_pos (by simpa using hc3)]
   refine g_region ?_
   refine gl_v rfl (o_move rfl) ?_
   first | refine gl_v rfl (o_fldS rfl) ?_ | refine gl_v rfl (o_fld rfl) ?_
   first | refine gl_u (o_store rfl rfl rfl rfl) ?_ | refine gl_u (o_storeS rfl rfl rfl (by first | assumption | omega | simp)) ?_
   refine gl_nil ?_
   refine ge_block ?_
   refine ge_then ?_
   refine g_region ?_
   refine gl_v rfl (o_addR _ (by first | exact wr_i64 (by omega) | rfl) rfl rfl) ?_
   refine gl_v rfl (o_move rfl) ?_
   refine gl_nil ?_
   refine ge_round (i + 1) (by show i + 1 ≤ 16; omega) (by show 16 - (i + 1) < 16 - i; omega) (Keep.cons rfl (Keep.cons rfl (Keep.cons rfl (Keep.cons rfl (Keep.cons rfl (Keep.cons rfl (Keep.cons rfl (Keep.cons rfl (Keep.nil))))))))) (by rw [hki]; exact (tO))
  ·
   replace hc3 := hs_ hc3
   have hki : kUp w0 (i + 1) = kUp w0 i := by rw [kUp]; exact if_neg (fun h9 => by simp [h9.1, h9.2] at hc3)
   refine g_skip ?_
   refine ge_block ?_
   refine ge_then ?_
   refine g_region ?_
   refine gl_v rfl (o_addR _ (by first | exact wr_i64 (by omega) | rfl) rfl rfl) ?_
   refine gl_v rfl (o_move rfl) ?_
   refine gl_nil ?_
   refine ge_round (i + 1) (by show i + 1 ≤ 16; omega) (by show 16 - (i + 1) < 16 - i; omega) (Keep.cons rfl (Keep.cons rfl (Keep.cons rfl (Keep.cons rfl (Keep.cons rfl (Keep.cons rfl (Keep.cons rfl (Keep.cons rfl (Keep.nil))))))))) (by rw [hki]; exact (tO))
 ·
  replace hc1 := hs_ hc1
  obtain rfl : i = 16 := by omega
  obtain ⟨k, hk⟩ : ∃ k, kindV w0 = k := ⟨_, rfl⟩
  have hkr := kUp_range w0 16
  rw [kUp_all, hk] at hkr
  rw [kUp_all, hk]
  refine g_exit ?_
  refine ge_then_exit ?_
  refine ge_then_exit ?_
  refine ge_block_exit ?_
  refine ge_then ?_
  refine g_cut (fun act wo => ∃ (e : Evt) (ω : Om), readV l = (if doneB ω = true then some e else none) ∧ HasSl Tryd.f15.ntmps [(8, ptr b8 0), (4, ptr b4 0), (2, ptr b2 0)] act ∧ St W0 (cel b8 37 (evtC (e)) :: wrd b14 ω :: cel b4 62 [ptr b14 0] :: cel b2 37 (evtC evt0) :: base W :: R) wo) ?_ ?_
  ·
   refine g_seq ?_
   refine g_region ?_
   first | refine gl_v rfl (o_fldS rfl) ?_ | refine gl_v rfl (o_fld rfl) ?_
   first | refine gl_v rfl (o_load rfl rfl) ?_ | refine gl_v rfl (o_loadS rfl rfl) ?_ | refine gl_v rfl (o_loadC rfl) ?_
   refine gl_nil ?_
   refine ge_then ?_
   refine g_block ?_
   refine g_seq ?_
   refine g_region ?_
   refine gl_v rfl (o_eql rfl rfl) ?_
   refine gl_v rfl (o_assign rfl) ?_
   refine gl_nil ?_
   refine ge_then ?_
   refine g_cond rfl (fun hc4 => ?_) (fun hc4 => ?_)
   ·
    replace hc4 := hs_ hc4
    obtain rfl : k = 1 := by omega
    refine g_seq ?_
    refine g_region ?_
    refine gl_v rfl (o_move rfl) ?_
    refine gl_c rfl (o_callV rfl rfl (rdn_spec hG b4 b14 ((ws, false)) (hsm)) pA) ?_
    rintro _ R ⟨_, ⟨rfl, rfl⟩, rfl⟩
    try simp only [List.cons_append, List.nil_append]
    first | refine gl_v rfl (o_fldS rfl) ?_ | refine gl_v rfl (o_fld rfl) ?_
    first | refine gl_u (o_store rfl rfl rfl rfl) ?_ | refine gl_u (o_storeS rfl rfl rfl (by first | assumption | omega | simp)) ?_
    refine gl_nil ?_
    refine ge_then ?_
    refine g_seq ?_
    refine g_region ?_
    refine gl_v rfl (o_move rfl) ?_
    refine gl_c rfl (o_callV rfl rfl (rdn_spec hG b4 b14 (numS (-65535) 65535 ((ws, false))) (small_num (hsm))) pA) ?_
    rintro _ R ⟨_, ⟨rfl, rfl⟩, rfl⟩
    try simp only [List.cons_append, List.nil_append]
    first | refine gl_v rfl (o_fldS rfl) ?_ | refine gl_v rfl (o_fld rfl) ?_
    first | refine gl_u (o_store rfl rfl rfl rfl) ?_ | refine gl_u (o_storeS rfl rfl rfl (by first | assumption | omega | simp)) ?_
    refine gl_nil ?_
    refine ge_then ?_
    refine g_seq ?_
    refine g_region ?_
    first | refine gl_v rfl (o_load rfl rfl) ?_ | refine gl_v rfl (o_loadS rfl rfl) ?_ | refine gl_v rfl (o_loadC rfl) ?_
    first | refine gl_n rfl (o_buildS1 rfl rfl rfl) ?_ | refine gl_n rfl (o_buildS1A rfl rfl rfl rfl) ?_ | refine gl_n rfl (o_buildS rfl rfl rfl rfl) ?_
    rintro _ _ ⟨b52, rfl, rfl⟩
    refine gl_c rfl (o_call rfl (name1_spec b14 b52 (numS (-65535) 65535 (numS (-65535) 65535 ((ws, false)))) (small_take (small_num (small_num (hsm))))) pA) ?_
    rintro _ R ⟨_, ⟨rfl, rfl⟩, rfl⟩
    try simp only [List.cons_append, List.nil_append]
    refine gl_c rfl (o_call rfl (Trim_spec _ [45]) pA) ?_
    rintro _ R ⟨_, ⟨rfl, rfl⟩, rfl⟩
    try simp only [List.cons_append, List.nil_append]
    rw [trim_eq]
    first | refine gl_v rfl (o_fldS rfl) ?_ | refine gl_v rfl (o_fld rfl) ?_
    first | refine gl_u (o_store rfl rfl rfl rfl) ?_ | refine gl_u (o_storeS rfl rfl rfl (by first | assumption | omega | simp)) ?_
    refine gl_nil ?_
    refine ge_then ?_
    refine g_region ?_
    refine gl_v rfl (o_move rfl) ?_
    refine gl_c rfl (o_callV rfl rfl (rdn_spec hG b4 b14 (nameS1 (numS (-65535) 65535 (numS (-65535) 65535 ((ws, false))))) (small_name1 (small_num (small_num (hsm))))) pA) ?_
    rintro _ R ⟨_, ⟨rfl, rfl⟩, rfl⟩
    try simp only [List.cons_append, List.nil_append]
    first | refine gl_v rfl (o_fldS rfl) ?_ | refine gl_v rfl (o_fld rfl) ?_
    first | refine gl_u (o_store rfl rfl rfl rfl) ?_ | refine gl_u (o_storeS rfl rfl rfl (by first | assumption | omega | simp)) ?_
    refine gl_nil ?_
    refine ge_block ?_
    exact fun act wo hsl st => ⟨(runV [70, 84, 82, 78] { evt0 with kind := 1 } (ws, false)).1, (runV [70, 84, 82, 78] { evt0 with kind := 1 } (ws, false)).2, by rw [readV_run hsp hk (by decide)]; exact endV_plain (by rw [runV_kind]; decide), hsl.keep (Keep.cons rfl (Keep.cons rfl (Keep.cons rfl (Keep.nil)))), st.imp (tO)⟩
   ·
    replace hc4 := hs_ hc4
    have nk1 : ¬ k = 1 := by omega
    refine g_seq ?_
    refine g_region ?_
    refine gl_v rfl (o_eql rfl rfl) ?_
    refine gl_v rfl (o_assign rfl) ?_
    refine gl_nil ?_
    refine ge_then ?_
    refine g_cond rfl (fun hc5 => ?_) (fun hc5 => ?_)
    ·
     replace hc5 := hs_ hc5
     obtain rfl : k = 2 := by omega
     refine g_seq ?_
     refine g_region ?_
     refine gl_v rfl (o_move rfl) ?_
     refine gl_c rfl (o_callV rfl rfl (rdi_spec hG b4 b14 ((ws, false)) (hsm)) pA) ?_
     rintro _ R ⟨_, ⟨rfl, rfl⟩, rfl⟩
     try simp only [List.cons_append, List.nil_append]
     first | refine gl_v rfl (o_fldS rfl) ?_ | refine gl_v rfl (o_fld rfl) ?_
     first | refine gl_u (o_store rfl rfl rfl rfl) ?_ | refine gl_u (o_storeS rfl rfl rfl (by first | assumption | omega | simp)) ?_
     refine gl_nil ?_
     refine ge_then ?_
     refine g_seq ?_
     refine g_region ?_
     refine gl_v rfl (o_move rfl) ?_
     refine gl_c rfl (o_callV rfl rfl (rdn_spec hG b4 b14 (numS 0 big50 ((ws, false))) (small_num (hsm))) pA) ?_
     rintro _ R ⟨_, ⟨rfl, rfl⟩, rfl⟩
     try simp only [List.cons_append, List.nil_append]
     first | refine gl_v rfl (o_fldS rfl) ?_ | refine gl_v rfl (o_fld rfl) ?_
     first | refine gl_u (o_store rfl rfl rfl rfl) ?_ | refine gl_u (o_storeS rfl rfl rfl (by first | assumption | omega | simp)) ?_
     refine gl_nil ?_
     refine ge_then ?_
     refine g_seq ?_
     refine g_region ?_
     refine gl_v rfl (o_move rfl) ?_
     refine gl_c rfl (o_callV rfl rfl (rdn_spec hG b4 b14 (numS (-65535) 65535 (numS 0 big50 ((ws, false)))) (small_num (small_num (hsm)))) pA) ?_
     rintro _ R ⟨_, ⟨rfl, rfl⟩, rfl⟩
     try simp only [List.cons_append, List.nil_append]
     first | refine gl_v rfl (o_fldS rfl) ?_ | refine gl_v rfl (o_fld rfl) ?_
     first | refine gl_u (o_store rfl rfl rfl rfl) ?_ | refine gl_u (o_storeS rfl rfl rfl (by first | assumption | omega | simp)) ?_
     refine gl_nil ?_
     refine ge_then ?_
     refine g_seq ?_
     refine g_region ?_
     first | refine gl_v rfl (o_load rfl rfl) ?_ | refine gl_v rfl (o_loadS rfl rfl) ?_ | refine gl_v rfl (o_loadC rfl) ?_
     refine gl_c rfl (o_call rfl (name0_spec b14 (numS (-65535) 65535 (numS (-65535) 65535 (numS 0 big50 ((ws, false))))) (small_take (small_num (small_num (small_num (hsm)))))) pA) ?_
     rintro _ R ⟨_, ⟨rfl, rfl⟩, rfl⟩
     try simp only [List.cons_append, List.nil_append]
     first | refine gl_v rfl (o_fldS rfl) ?_ | refine gl_v rfl (o_fld rfl) ?_
     first | refine gl_u (o_store rfl rfl rfl rfl) ?_ | refine gl_u (o_storeS rfl rfl rfl (by first | assumption | omega | simp)) ?_
     refine gl_nil ?_
     refine ge_then ?_
     refine g_seq ?_
     refine g_region ?_
     refine gl_v rfl (o_move rfl) ?_
     refine gl_c rfl (o_callV rfl rfl (rdn_spec hG b4 b14 (nameS (numS (-65535) 65535 (numS (-65535) 65535 (numS 0 big50 ((ws, false)))))) (small_name (small_num (small_num (small_num (hsm)))))) pA) ?_
     rintro _ R ⟨_, ⟨rfl, rfl⟩, rfl⟩
     try simp only [List.cons_append, List.nil_append]
     first | refine gl_v rfl (o_fldS rfl) ?_ | refine gl_v rfl (o_fld rfl) ?_
     first | refine gl_u (o_store rfl rfl rfl rfl) ?_ | refine gl_u (o_storeS rfl rfl rfl (by first | assumption | omega | simp)) ?_
     refine gl_nil ?_
     refine ge_then ?_
     refine g_seq ?_
     have hrd : readV l = endV ((runV [105, 70, 84, 77, 78] { evt0 with kind := 2 } (ws, false)).1, numS (-65535) 65535 (nameS (numS (-65535) 65535 (numS (-65535) 65535 (numS 0 big50 ((ws, false))))))) := readV_run hsp hk (by decide)
     generalize hω : numS (-65535) 65535 (nameS (numS (-65535) 65535 (numS (-65535) 65535 (numS 0 big50 ((ws, false)))))) = ω5 at hrd ⊢
     obtain ⟨l5, bd⟩ := ω5
     refine g_imp (fun h s => Sel.to (A := wrd b14 (l5, bd)) sE s) ?_
     refine g_open .head ?_
     rintro ⟨a, c⟩ -
     simp only [List.cons_append, List.nil_append]
     refine g_region ?_
     first | refine gl_v rfl (o_load rfl rfl) ?_ | refine gl_v rfl (o_loadS rfl rfl) ?_ | refine gl_v rfl (o_loadC rfl) ?_
     refine gl_v rfl (o_nil rfl) ?_
     first | refine gl_v rfl (o_fldS rfl) ?_ | refine gl_v rfl (o_fld rfl) ?_
     first | refine gl_v rfl (o_load rfl rfl) ?_ | refine gl_v rfl (o_loadS rfl rfl) ?_ | refine gl_v rfl (o_loadC rfl) ?_
     first | refine gl_v rfl (o_len rfl) ?_ | refine gl_v rfl (o_lenL rfl) ?_
     refine gl_v rfl (o_gtr rfl rfl) ?_
     refine gl_nil ?_
     refine ge_then ?_
     refine g_cond rfl (fun hc6 => ?_) (fun hc6 => ?_)
     ·
      replace hc6 := hs_ hc6
      obtain ⟨w5, ws5, rfl⟩ : ∃ w5 ws5, l5 = w5 :: ws5 := by cases l5 with | nil => exact absurd hc6 (by simp) | cons w5 ws5 => exact ⟨w5, ws5, rfl⟩
      refine g_seq ?_
      refine g_region ?_
      first | refine gl_v rfl (o_fldS rfl) ?_ | refine gl_v rfl (o_fld rfl) ?_
      first | refine gl_u (o_store rfl rfl rfl rfl) ?_ | refine gl_u (o_storeS rfl rfl rfl (by first | assumption | omega | simp)) ?_
      refine gl_nil ?_
      refine ge_then ?_
      cases bd
      ·
       refine g_treeM [7, 12] [7] (.stab 0 (.loc 1 (.loc 2 (.loc 3 (.loc 4 (.loc 5 (.loc 6 (.eff 7 (.loc 8 (.loc 9 (.loc 10 (.loc 11 (.eff 12 .nil .nil))))) .nil)))))))) [cel b4 62 [ptr b14 0]] mixed (by kernel_rfl) ?_
       first | refine gt_vs rfl .none rfl (o_load rfl rfl) (tO) ?_ | refine gt_vs rfl .none rfl (o_loadS rfl rfl) (tO) ?_ | refine gt_vs rfl .none rfl (o_loadC rfl) (tO) ?_
       first | refine gt_v rfl .none rfl (o_load rfl rfl) ?_ | refine gt_v rfl .none rfl (o_loadS rfl rfl) ?_ | refine gt_v rfl .none rfl (o_loadC rfl) ?_
       refine gt_v rfl .none rfl (o_nil rfl) ?_
       first | refine gt_v rfl .none rfl (o_fldS rfl) ?_ | refine gt_v rfl .none rfl (o_fld rfl) ?_
       first | refine gt_v rfl .none rfl (o_load rfl rfl) ?_ | refine gt_v rfl .none rfl (o_loadS rfl rfl) ?_ | refine gt_v rfl .none rfl (o_loadC rfl) ?_
       refine gt_v rfl .none rfl (o_move rfl) ?_
       first | refine gt_v rfl (.yes rfl rfl rfl) rfl (o_load rfl rfl) ?_ | refine gt_v rfl (.yes rfl rfl rfl) rfl (o_loadS rfl rfl) ?_ | refine gt_v rfl (.yes rfl rfl rfl) rfl (o_loadC rfl) ?_
       refine gt_c rfl (.yes rfl rfl rfl) rfl (o_call rfl (take_op b14 w5 ws5 false a c) pA) ?_
       rintro _ R ⟨_, ⟨rfl, rfl⟩, rfl⟩
       try simp only [List.cons_append, List.nil_append]
       refine ⟨(fun _ => (tO)), ?_⟩
       refine gt_v rfl (.yes rfl rfl rfl) rfl (o_neqs rfl rfl) ?_
       refine gt_v rfl .none rfl (o_pickF rfl rfl rfl) ?_
       refine gt_v rfl .none rfl (o_nil rfl) ?_
       first | refine gt_v rfl .none rfl (o_fldS rfl) ?_ | refine gt_v rfl .none rfl (o_fld rfl) ?_
       first | refine gt_u rfl .none (o_store rfl rfl rfl rfl) (fun hG => absurd hG (by decide)) ?_ | refine gt_u rfl .none (o_storeS rfl rfl rfl (by first | assumption | omega | simp)) (fun hG => absurd hG (by decide)) ?_
       refine gt_nil ?_
       refine ge_block ?_
       exact fun act wo hsl st => ⟨{ (runV [105, 70, 84, 77, 78] { evt0 with kind := 2 } (ws, false)).1 with timed := true }, (ws5, !decide (w5 = wTimed)), by rw [hrd]; exact endV_ok rfl, hsl.keep (Keep.cons rfl (Keep.cons rfl (Keep.cons rfl (Keep.nil)))), st.imp (fun h s => Sat.tail (fun h s => wrd_tl (p := b14) (w := w5) (ws := ws5) (b := !decide (w5 = wTimed)) (a := a) (c := c) h s) ((tO) h s))⟩
      ·
       refine g_treeM [7, 12] [7] (.stab 0 (.loc 1 (.loc 2 (.loc 3 (.loc 4 (.loc 5 (.loc 6 (.eff 7 (.loc 8 (.loc 9 (.loc 10 (.loc 11 (.eff 12 .nil .nil))))) .nil)))))))) [cel b4 62 [ptr b14 0]] mixed (by kernel_rfl) ?_
       first | refine gt_vs rfl .none rfl (o_load rfl rfl) (tO) ?_ | refine gt_vs rfl .none rfl (o_loadS rfl rfl) (tO) ?_ | refine gt_vs rfl .none rfl (o_loadC rfl) (tO) ?_
       first | refine gt_v rfl .none rfl (o_load rfl rfl) ?_ | refine gt_v rfl .none rfl (o_loadS rfl rfl) ?_ | refine gt_v rfl .none rfl (o_loadC rfl) ?_
       refine gt_v rfl .none rfl (o_nil rfl) ?_
       first | refine gt_v rfl .none rfl (o_fldS rfl) ?_ | refine gt_v rfl .none rfl (o_fld rfl) ?_
       first | refine gt_v rfl .none rfl (o_load rfl rfl) ?_ | refine gt_v rfl .none rfl (o_loadS rfl rfl) ?_ | refine gt_v rfl .none rfl (o_loadC rfl) ?_
       refine gt_v rfl .none rfl (o_move rfl) ?_
       refine gt_skipL rfl (.no rfl rfl rfl) rfl ?_
       refine gt_skipE rfl (.no rfl rfl rfl) rfl ?_
       refine gt_skipL rfl (.no rfl rfl rfl) rfl ?_
       refine gt_v rfl .none rfl (o_pickT rfl rfl rfl) ?_
       refine gt_v rfl .none rfl (o_nil rfl) ?_
       first | refine gt_v rfl .none rfl (o_fldS rfl) ?_ | refine gt_v rfl .none rfl (o_fld rfl) ?_
       first | refine gt_u rfl .none (o_store rfl rfl rfl rfl) (fun hG => absurd hG (by decide)) ?_ | refine gt_u rfl .none (o_storeS rfl rfl rfl (by first | assumption | omega | simp)) (fun hG => absurd hG (by decide)) ?_
       refine gt_nil ?_
       refine ge_block ?_
       exact fun act wo hsl st => ⟨{ (runV [105, 70, 84, 77, 78] { evt0 with kind := 2 } (ws, false)).1 with timed := true }, (w5 :: ws5, true), by rw [hrd]; exact endV_bd rfl (by simp) rfl, hsl.keep (Keep.cons rfl (Keep.cons rfl (Keep.cons rfl (Keep.nil)))), st.imp (fun h s => Sat.tail (fun h s => wrd_close (p := b14) (ω := (w5 :: ws5, true)) a c (fun h s => s) h s) ((tO) h s))⟩
     ·
      replace hc6 := hs_ hc6
      obtain rfl : l5 = [] := List.eq_nil_of_length_eq_zero (by omega)
      refine g_skip ?_
      refine ge_block ?_
      exact fun act wo hsl st => ⟨(runV [105, 70, 84, 77, 78] { evt0 with kind := 2 } (ws, false)).1, ([], bd), by rw [hrd]; exact endV_no rfl, hsl.keep (Keep.cons rfl (Keep.cons rfl (Keep.cons rfl (Keep.nil)))), st.imp (fun h s => Sat.tail (fun h s => wrd_close (p := b14) (ω := ([], bd)) a c (fun h s => s) h s) ((tO) h s))⟩
    ·
     replace hc5 := hs_ hc5
     have nk2 : ¬ k = 2 := by omega
     refine g_seq ?_
     refine g_region ?_
     refine gl_v rfl (o_eql rfl rfl) ?_
     refine gl_v rfl (o_assign rfl) ?_
     refine gl_nil ?_
     refine ge_then ?_
     refine g_cond rfl (fun hc7 => ?_) (fun hc7 => ?_)
     ·
      replace hc7 := hs_ hc7
      obtain rfl : k = 6 := by omega
      refine g_seq ?_
      refine g_region ?_
      refine gl_v rfl (o_move rfl) ?_
      refine gl_c rfl (o_callV rfl rfl (rdi_spec hG b4 b14 ((ws, false)) (hsm)) pA) ?_
      rintro _ R ⟨_, ⟨rfl, rfl⟩, rfl⟩
      try simp only [List.cons_append, List.nil_append]
      first | refine gl_v rfl (o_fldS rfl) ?_ | refine gl_v rfl (o_fld rfl) ?_
      first | refine gl_u (o_store rfl rfl rfl rfl) ?_ | refine gl_u (o_storeS rfl rfl rfl (by first | assumption | omega | simp)) ?_
      refine gl_nil ?_
      refine ge_then ?_
      refine g_seq ?_
      refine g_region ?_
      refine gl_v rfl (o_move rfl) ?_
      refine gl_c rfl (o_callV rfl rfl (rdn_spec hG b4 b14 (numS 0 big50 ((ws, false))) (small_num (hsm))) pA) ?_
      rintro _ R ⟨_, ⟨rfl, rfl⟩, rfl⟩
      try simp only [List.cons_append, List.nil_append]
      first | refine gl_v rfl (o_fldS rfl) ?_ | refine gl_v rfl (o_fld rfl) ?_
      first | refine gl_u (o_store rfl rfl rfl rfl) ?_ | refine gl_u (o_storeS rfl rfl rfl (by first | assumption | omega | simp)) ?_
      refine gl_nil ?_
      refine ge_then ?_
      refine g_region ?_
      refine gl_v rfl (o_move rfl) ?_
      refine gl_c rfl (o_callV rfl rfl (rdn_spec hG b4 b14 (numS (-65535) 65535 (numS 0 big50 ((ws, false)))) (small_num (small_num (hsm)))) pA) ?_
      rintro _ R ⟨_, ⟨rfl, rfl⟩, rfl⟩
      try simp only [List.cons_append, List.nil_append]
      first | refine gl_v rfl (o_fldS rfl) ?_ | refine gl_v rfl (o_fld rfl) ?_
      first | refine gl_u (o_store rfl rfl rfl rfl) ?_ | refine gl_u (o_storeS rfl rfl rfl (by first | assumption | omega | simp)) ?_
      refine gl_nil ?_
      refine ge_block ?_
      exact fun act wo hsl st => ⟨(runV [105, 84, 87] { evt0 with kind := 6 } (ws, false)).1, (runV [105, 84, 87] { evt0 with kind := 6 } (ws, false)).2, by rw [readV_run hsp hk (by decide)]; exact endV_plain (by rw [runV_kind]; decide), hsl.keep (Keep.cons rfl (Keep.cons rfl (Keep.cons rfl (Keep.nil)))), st.imp (tO)⟩
     ·
      replace hc7 := hs_ hc7
      have nk6 : ¬ k = 6 := by omega
      refine g_seq ?_
      refine g_region ?_
      refine gl_v rfl (o_eql rfl rfl) ?_
      refine gl_v rfl (o_assign rfl) ?_
      refine gl_nil ?_
      refine ge_then ?_
      refine g_cond rfl (fun hc8 => ?_) (fun hc8 => ?_)
      ·
       replace hc8 := hs_ hc8
       obtain rfl : k = 15 := by omega
       refine g_region ?_
       refine gl_v rfl (o_move rfl) ?_
       refine gl_c rfl (o_callV rfl rfl (rdn_spec hG b4 b14 ((ws, false)) (hsm)) pA) ?_
       rintro _ R ⟨_, ⟨rfl, rfl⟩, rfl⟩
       try simp only [List.cons_append, List.nil_append]
       first | refine gl_v rfl (o_fldS rfl) ?_ | refine gl_v rfl (o_fld rfl) ?_
       first | refine gl_u (o_store rfl rfl rfl rfl) ?_ | refine gl_u (o_storeS rfl rfl rfl (by first | assumption | omega | simp)) ?_
       refine gl_nil ?_
       refine ge_block ?_
       exact fun act wo hsl st => ⟨(runV [78] { evt0 with kind := 15 } (ws, false)).1, (runV [78] { evt0 with kind := 15 } (ws, false)).2, by rw [readV_run hsp hk (by decide)]; exact endV_plain (by rw [runV_kind]; decide), hsl.keep (Keep.cons rfl (Keep.cons rfl (Keep.cons rfl (Keep.nil)))), st.imp (tO)⟩
      ·
       replace hc8 := hs_ hc8
       have nk15 : ¬ k = 15 := by omega
       refine g_seq ?_
       refine g_region ?_
       refine gl_v rfl (o_eql rfl rfl) ?_
       refine gl_v rfl (o_assign rfl) ?_
       refine gl_nil ?_
       refine ge_then ?_
       refine g_cond rfl (fun hc9 => ?_) (fun hc9 => ?_)
       ·
        replace hc9 := hs_ hc9
        obtain rfl : k = 0 := by omega
        refine g_imp (fun h s => Sel.to (A := wrd b14 ((ws, false))) sE s) ?_
        refine g_open .head ?_
        rintro ⟨a, c⟩ -
        simp only [List.cons_append, List.nil_append]
        refine g_region ?_
        first | refine gl_v rfl (o_load rfl rfl) ?_ | refine gl_v rfl (o_loadS rfl rfl) ?_ | refine gl_v rfl (o_loadC rfl) ?_
        refine gl_v rfl (o_nil rfl) ?_
        first | refine gl_v rfl (o_fldS rfl) ?_ | refine gl_v rfl (o_fld rfl) ?_
        first | refine gl_u (o_store rfl rfl rfl rfl) ?_ | refine gl_u (o_storeS rfl rfl rfl (by first | assumption | omega | simp)) ?_
        refine gl_nil ?_
        refine ge_block ?_
        exact fun act wo hsl st => ⟨evt0, (ws, true), by rw [readV_no hsp hk]; rfl, hsl.keep (Keep.cons rfl (Keep.cons rfl (Keep.cons rfl (Keep.nil)))), st.imp (fun h s => Sat.tail (fun h s => wrd_close (p := b14) (ω := (ws, true)) a c (fun h s => s) h s) ((tO) h s))⟩
       ·
        replace hc9 := hs_ hc9
        have nk0 : ¬ k = 0 := by omega
        have hk15 : 1 ≤ k ∧ k ≤ 15 := by unfold kindV at hk; (repeat' split at hk) <;> omega
        refine g_seq ?_
        refine g_region ?_
        refine gl_v rfl (o_move rfl) ?_
        refine gl_c rfl (o_callV rfl rfl (rdn_spec hG b4 b14 ((ws, false)) (hsm)) pA) ?_
        rintro _ R ⟨_, ⟨rfl, rfl⟩, rfl⟩
        try simp only [List.cons_append, List.nil_append]
        first | refine gl_v rfl (o_fldS rfl) ?_ | refine gl_v rfl (o_fld rfl) ?_
        first | refine gl_u (o_store rfl rfl rfl rfl) ?_ | refine gl_u (o_storeS rfl rfl rfl (by first | assumption | omega | simp)) ?_
        refine gl_nil ?_
        refine ge_then ?_
        refine g_region ?_
        first | refine gl_v rfl (o_load rfl rfl) ?_ | refine gl_v rfl (o_loadS rfl rfl) ?_ | refine gl_v rfl (o_loadC rfl) ?_
        refine gl_v rfl (o_move rfl) ?_
        refine gl_v rfl (o_move rfl) ?_
        refine gl_c rfl (o_call rfl (rest_spec hG b4 b14 b8 { evt0 with kind := k, actor := numR (-65535) 65535 (ws, false) } (numS (-65535) 65535 ((ws, false))) (small_num (hsm))) pA) ?_
        rintro _ R ⟨_, ⟨rfl, rfl⟩, rfl⟩
        try simp only [List.cons_append, List.nil_append]
        refine gl_nil ?_
        refine ge_block ?_
        exact fun act wo hsl st => ⟨(runV (65 :: restF k) { evt0 with kind := k } (ws, false)).1, (runV (65 :: restF k) { evt0 with kind := k } (ws, false)).2, by rw [readV_run hsp hk nk0, form_rest (k := k) hk15 nk1 nk2 nk6 nk15]; exact endV_plain (by rw [runV_kind]; exact nk2), hsl.keep (Keep.cons rfl (Keep.cons rfl (Keep.cons rfl (Keep.nil)))), st.imp (tO)⟩
  ·
   rintro act wo ⟨e, ω, hR, hsl, st⟩
   refine g_of ?_ hsl st
   clear hsl st act wo
   refine g_seq ?_
   refine g_seq ?_
   refine g_region ?_
   first | refine gl_v rfl (o_load rfl rfl) ?_ | refine gl_v rfl (o_loadS rfl rfl) ?_ | refine gl_v rfl (o_loadC rfl) ?_
   refine gl_c rfl (o_call rfl (done_spec b14 ω) pA) ?_
   rintro _ R ⟨_, ⟨rfl, rfl⟩, rfl⟩
   try simp only [List.cons_append, List.nil_append]
   refine gl_v rfl (o_not rfl) ?_
   refine gl_nil ?_
   refine ge_then ?_
   refine g_cond rfl (fun hc10 => ?_) (fun hc10 => ?_)
   ·
    replace hc10 := hs_ hc10
    have hd : doneB ω = false := by simpa using hc10
    rw [hd, if_neg (by decide)] at hR
    refine g_seq ?_
    refine g_region ?_
    refine gl_v rfl (o_build rfl rfl) ?_
    first | refine gl_u (o_storeSA rfl rfl rfl rfl (by simp; omega) (by simp)) ?_ | refine gl_u (o_storeA rfl rfl rfl rfl rfl) ?_
    refine gl_v rfl (o_assign rfl) ?_
    refine gl_nil ?_
    refine ge_then ?_
    refine g_ret ?_
    refine ge_then_ret ?_
    refine ret2ct (.inl rfl) rfl rfl rfl rfl rfl [base W] ⟨by rw [hR]; rfl, rfl⟩ (tO)
   ·
    replace hc10 := hs_ hc10
    have hd : doneB ω = true := by simpa using hc10
    rw [hd, if_pos rfl] at hR
    refine g_skip ?_
    refine ge_then ?_
    refine g_seq ?_
    refine g_region ?_
    first | refine gl_v rfl (o_loadSA rfl rfl rfl) ?_ | refine gl_v rfl (o_loadA rfl rfl rfl) ?_
    first | refine gl_u (o_storeSA rfl rfl rfl rfl (by simp; omega) (by simp)) ?_ | refine gl_u (o_storeA rfl rfl rfl rfl rfl) ?_
    refine gl_v rfl (o_assign rfl) ?_
    refine gl_nil ?_
    refine ge_then ?_
    refine g_ret ?_
    refine ret2ct (.inl rfl) rfl rfl rfl rfl rfl [base W] ⟨by rw [hR]; rfl, rfl⟩ (tO)

end Go.Proofs.YtcglaiacohkaeaaDoor.L
