/-
  The law ScriptEvents returns true, and each argument reads behind the call as it read before, for every input whose reading is of bulk at most 1048576.
-/
import Derived.Deep.DeepHandedRow
import Derived.Test.YtcglaiacohkaeaaDoorRows
import Derived.Test.YtcglaiacohkaeaaDoorCards
import Derived.Test.YtcglaiacohkaeaaDoorTie
import Derived.Test.YtcglaiacohkaeaaDoorScrA
import Derived.Test.YtcglaiacohkaeaaDoorScrIn
import Derived.Test.YtcglaiacohkaeaaDoorScrM
set_option linter.unusedSimpArgs false
set_option linter.unusedVariables false
namespace Go.Proofs.YtcglaiacohkaeaaDoor.lawScriptEvents
open Go.L Go.Proofs.YtcglaiacohkaeaaDoor.L
open Go.ChangeShapes Go.WideShapes Go.ChangeAt Go.RowKit
open Go.ChangeMaps (open_string shut_string)
set_option maxRecDepth 100000 in
theorem contract (H : Type) (enc : TypeId × Value → H) (W : World) (bs : Nat) (args : Array Value) (ds gs : List (DataW H)) (before : List MemPlace)
    (hval : ∀ (j : Nat) t v, Tryd.f4.params[j]? = some t → args[j]? = some v → Value.okWide Tryd.prog W .any bs t v)
    (hW : DataW.Whole enc Tryd.prog Tryd.f4.params.toList Rows.scriptEventsSpec.vars false W args.toList ds gs before) (hk : Rows.uptoSmall H (ds ++ gs) = true) (hL : laidMetH Tryd.prog laidL W) (hSh : W.ShapedOpen Tryd.prog)
    (hz : (DataW.weightsEach Tryd.prog (Tryd.f4.params.toList ++ Rows.scriptEventsSpec.plain.varTypes Tryd.prog) (ds ++ gs)).all (· ≤ reachBytes) = true) :
    Calls Tryd.prog 4 args W fun e W' => ∃ v, e = .returned v ∧ Rows.scriptEventsSpec.post enc Tryd.prog Tryd.f4 false true false false W args v W' := by
  have hW' := hW
  obtain ⟨p, q, hA0, hV, rfl, hfz, hnd⟩ := hW
  have hA : DataW.TrodAll enc Tryd.prog W 0 (fun _ => true) true Tryd.f4.params.toList args.toList ds p := hA0
  rw [Tryd.params4] at hA hval
  obtain ⟨v0, vs0, d0, ds0, p0, q0, hargs, rfl, rfl, h0, r0⟩ := trodAll_cons hA
  obtain ⟨v1, vs1, d1, ds1, p1, q1, rfl, rfl, rfl, h1, r1⟩ := trodAll_cons r0
  obtain ⟨rfl, rfl, rfl⟩ := trodAll_nil r1
  obtain rfl : args = #[v0, v1] := by cases args; simp_all
  obtain ⟨rfl, rfl⟩ := trodVars_none hV
  have k0 := h0
  have lt0 : ∀ x ∈ p0, x.block < W.heap.size := by obtain ⟨m, hm⟩ := k0; exact DataW.trod_lt m _ _ _ hm
  obtain ⟨cs_0, rfl, hz_0⟩ := okWide_struct Tryd.underlying37 (hval 0 37 v0 rfl rfl)
  obtain ⟨fu_0, hf_0⟩ := id h0
  obtain ⟨q_0, hQ_0, hR_0⟩ := one_evt _ _ _ hf_0 (bulk_at hk (j := 0) rfl)
  obtain rfl : cs_0 = (evtC q_0).toArray := by
    obtain ⟨cl⟩ := cs_0
    simpa [Value.cells] using hQ_0
  obtain ⟨x1, rfl, rfl, rfl, w1⟩ := open_string Tryd.underlying9 (hval 1 9 v1 rfl rfl) h1
  clear hA0
  obtain ⟨⟨l1⟩⟩ := x1
  have z1 : l1.length ≤ 1048576 := bulk_str (bulk_at hk (j := 1) rfl)
  refine (ScriptEvents_spec (gok_of hL) (Tryd.spTm.s1_3 W hSh) q_0 hR_0 l1 z1 W [] W (st_start W)).mono fun e W' ⟨v, Bs, he, ⟨hv, hB⟩, hst⟩ => ?_
  subst he hv hB
  have bel := below_of_st hst
  exact ⟨_, rfl, _, _, _, [], _, [], hW', trodAll_mk1 (shut_bool Tryd.underlying4 _), (trodAll_cons_mk (Below.trod laidOut (by kernel_rfl) (of_decide_eq_true (by kernel_rfl)) k0 bel lt0) (trodAll_cons_mk (shut_string Tryd.underlying9 w1) trodAll_mk0)), rfl, bel.frame _, fun h => by cases h⟩

set_option maxRecDepth 100000 in
theorem reads (os : Os) {H : Type} (enc : TypeId × Value → H) : ∃ places, DataW.whole enc Tryd.prog ((laidWorld os).forCall (fun _ _ => 0) ⟨#[], #[.agg #[.int .i64 0, .int .i64 0, .int .u64 0, .int .i64 0, .int .i64 0, .string ByteArray.empty, .int .i64 0, .int .i64 0, .bool false], .string ByteArray.empty], []⟩).memory Tryd.f4.params.toList Rows.scriptEventsSpec.vars false (#[.agg #[.int .i64 0, .int .i64 0, .int .u64 0, .int .i64 0, .int .i64 0, .string ByteArray.empty, .int .i64 0, .int .i64 0, .bool false], .string ByteArray.empty] : Array Value).toList 8 = some ([.agg [.lit (.int .i64 0), .lit (.int .i64 0), .lit (.int .u64 0), .lit (.int .i64 0), .lit (.int .i64 0), .lit (.string []), .lit (.int .i64 0), .lit (.int .i64 0), .lit (.bool false)], .lit (.string [])], [], places) :=
  ⟨[], by kernel_rfl⟩
set_option maxRecDepth 100000 in
theorem lifted (os : Os) (started : os.Started) (H : Type) (enc : TypeId × Value → H) (F : Stop.Interp) :
    ReturnsInHanded {} Tryd.checked os 4 .any ((Rows.OpenSpec.upto Rows.scriptEventsSpec).preRow enc Tryd.prog Tryd.f4 Rows.scriptEventsUptoRow.domain false Rows.scriptEventsUptoRow.laid) (((Rows.OpenSpec.upto Rows.scriptEventsSpec).at F).post enc Tryd.prog Tryd.f4 false true false false) := by
  obtain ⟨places, hx⟩ := reads os enc
  refine returnsInHanded_of_row (C := Tryd.checked) (s := Rows.OpenSpec.upto Rows.scriptEventsSpec) own started (by kernel_rfl) Tryd.func4
    (witness_row_at (enc := enc) (C := Tryd.checked) false (laidWorld os) #[.agg #[.int .i64 0, .int .i64 0, .int .u64 0, .int .i64 0, .int .i64 0, .string ByteArray.empty, .int .i64 0, .int .i64 0, .bool false], .string ByteArray.empty] rfl (by kernel_rfl) (by kernel_rfl) (by kernel_rfl)
      (OpenSpec.preRow_of_cond 8 hx (by kernel_rfl) (fun k hk => by cases hk; kernel_rfl) (by kernel_rfl) (laidWorld_met os _))) ?_
  intro W bs args ds gs before hval hW _ hk hz hL hSh _
  exact contract H enc W bs args ds gs before hval hW (hk _ rfl) hL hSh hz
theorem row : Rows.ScriptEventsUptoSaid :=
  OpenClaim.holds_of_cond 4 Tryd.f4 rfl rfl rfl rfl rfl rfl rfl ⟨rfl, rfl, rfl, rfl, rfl⟩ rfl rfl rfl rfl rfl (by kernel_rfl) Tryd.func4 (by kernel_rfl)
    (of_decide_eq_true (by kernel_rfl)) (by unfold Func.isWrapper; first | (rw [if_pos (by decide +kernel)]; kernel_rfl) | (rw [if_neg (by decide +kernel)]; exact ⟨rfl, rfl⟩))
    (fun os started H enc _ F => by rw [OpenClaim.pre_eq_preRow]; exact lifted os started H enc F)
theorem proved : Rows.ScriptEventsUptoCardSaid :=
  Claim7.holds_tied_plain_at .later [] _ _ _ _
    row (fun _ h => by cases h) (by kernel_rfl) (fun _ h => by cases h) scriptEventsUpto_row_tie rfl ⟨rfl, rfl⟩ (by kernel_rfl) rfl
    (fun f fn hf hfn => by
      obtain rfl : f = 4 := Option.some.inj ((show Tryd.prog.funcNamed Tryd.f4.name = some 4 by kernel_rfl).symm.trans hf) |>.symm
      obtain rfl : fn = Tryd.f4 := (Option.some.inj (Tryd.func4.symm.trans hfn)).symm
      exact ⟨by kernel_rfl, fun j t ht => by
        rw [Tryd.params4] at ht
        have h3 : t = 9 ∨ t = 37 := by
          rcases j with _ | _ | j <;> simp at ht <;> (try subst ht) <;> simp
        rcases h3 with rfl | rfl
        · exact (show Tryd.prog.wantsStandIn 9 = false by kernel_rfl)
        · exact (show Tryd.prog.wantsStandIn 37 = false by kernel_rfl)⟩)
    (by kernel_rfl)
end Go.Proofs.YtcglaiacohkaeaaDoor.lawScriptEvents
