/-
  For every input the law ParsePrints returns true, and each argument reads behind the call as it read before. No condition.
-/
import Derived.Test.YtgkjnilckmminaaGreatDoorRows
import Derived.Test.YtgkjnilckmminaaGreatDoorCards
import Derived.Test.YtgkjnilckmminaaGreatDoorTie
import Derived.Test.YtgkjnilckmminaaGreatDoorParPr
import Derived.Test.YtgkjnilckmminaaGreatDoorPrgJn
import Derived.Test.YtgkjnilckmminaaGreatDoorParM
set_option linter.unusedSimpArgs false
set_option linter.unusedVariables false
namespace Go.Proofs.YtgkjnilckmminaaGreatDoor.lawParsePrints
open Go.L Go.Proofs.YtgkjnilckmminaaGreatDoor.L
open Go.ChangeShapes Go.WideShapes Go.ChangeAt Go.RowKit
open Go.ChangeMaps (open_string shut_string)
set_option maxRecDepth 100000 in
theorem contract (H : Type) (enc : TypeId × Value → H) (W : World) (bs : Nat) (args : Array Value) (ds gs : List (DataW H)) (before : List MemPlace)
    (hval : ∀ (j : Nat) t v, Tryz.f4.params[j]? = some t → args[j]? = some v → Value.okWide Tryz.prog W .any bs t v)
    (hW : DataW.Whole enc Tryz.prog Tryz.f4.params.toList Rows.parsePrintsSpec.vars false W args.toList ds gs before) (hL : laidMetH Tryz.prog laidL W)
    (hz : (DataW.weightsEach Tryz.prog (Tryz.f4.params.toList ++ Rows.parsePrintsSpec.plain.varTypes Tryz.prog) (ds ++ gs)).all (· ≤ reachBytes) = true) :
    Calls Tryz.prog 4 args W fun e W' => ∃ v, e = .returned v ∧ Rows.parsePrintsSpec.post enc Tryz.prog Tryz.f4 false true false false W args v W' := by
  have hW' := hW
  obtain ⟨p, q, hA0, hV, rfl, hfz, hnd⟩ := hW
  have hA : DataW.TrodAll enc Tryz.prog W 0 (fun _ => true) true Tryz.f4.params.toList args.toList ds p := hA0
  rw [Tryz.params4] at hA hval
  obtain ⟨v0, vs0, d0, ds0, p0, q0, hargs, rfl, rfl, h0, r0⟩ := trodAll_cons hA
  obtain ⟨rfl, rfl, rfl⟩ := trodAll_nil r0
  obtain rfl : args = #[v0] := by cases args; simp_all
  obtain ⟨rfl, rfl⟩ := trodVars_none hV
  have k0 := h0
  have lt0 : ∀ x ∈ p0, x.block < W.heap.size := by obtain ⟨m, hm⟩ := k0; exact DataW.trod_lt m _ _ _ hm
  obtain ⟨cs_0, rfl, hz_0⟩ := okWide_struct Tryz.underlying25 (hval 0 25 v0 rfl rfl)
  obtain ⟨fu_0, hf_0⟩ := id h0
  obtain ⟨pa_0, pc_0, K_0, hK_0, hP_0, hR_0⟩ := one_prg _ _ _ hf_0 (wok_top hz (j := 0) rfl rfl)
  obtain rfl : cs_0 = #[.slice pa_0 K_0.length pc_0] := by
    obtain ⟨cl⟩ := cs_0
    simpa [Value.cells] using hK_0
  clear hA0
  refine (ParsePrints_spec (gok_of hL) pa_0 pc_0 K_0 hP_0 hR_0 W [] W (st_start W)).mono fun e W' ⟨v, Bs, he, ⟨hv, hB⟩, hst⟩ => ?_
  subst he hv hB
  have bel := below_of_st hst
  exact ⟨_, rfl, _, _, _, [], _, [], hW', trodAll_mk1 (shut_bool Tryz.underlying4 _), (trodAll_cons_mk (Below.trod laidOut (by kernel_rfl) (of_decide_eq_true (by kernel_rfl)) k0 bel lt0) trodAll_mk0), rfl, bel.frame _, fun h => by cases h⟩

set_option maxRecDepth 100000 in
theorem lifted (os : Os) (started : os.Started) (H : Type) (enc : TypeId × Value → H) :
    ReturnsInHanded {} Tryz.checked os 4 .any (fun w args => (Rows.parsePrintsSpec.pre enc Tryz.prog Tryz.f4 [] false w args ∧ laidMetH Tryz.prog laidL w) ∧ sizedMet enc Tryz.prog Tryz.f4 (OpenSpec.ofChange Rows.parsePrintsSpec) false w args) (Rows.parsePrintsSpec.post enc Tryz.prog Tryz.f4 false true false false) := by
  refine returnsInHanded_of_change_and (C := Tryz.checked) (X := fun w _ => laidMetH Tryz.prog laidL w) (fun _ _ _ hh h => h.of_heap hh) own started (by kernel_rfl) Tryz.func4
    (ChangeSpec.witness_at (enc := enc) (C := Tryz.checked) (os := os) (X := fun w _ => laidMetH Tryz.prog laidL w) false (laidWorld os) #[.agg #[.slice none 0 0]] 8 rfl (by kernel_rfl) (by kernel_rfl) (by kernel_rfl) (by kernel_rfl) (by kernel_rfl) (laidWorld_met os _)) ?_
  intro W bs args ds gs before hval hW _ hz hL _
  exact contract H enc W bs args ds gs before hval hW hL hz
theorem row : Rows.ParsePrintsSaid :=
  OpenClaim.holds_of_wide 4 Tryz.f4 rfl rfl rfl rfl rfl rfl rfl ⟨rfl, rfl, rfl, rfl, rfl⟩ rfl rfl rfl rfl rfl (by kernel_rfl) Tryz.func4 (by kernel_rfl)
    (of_decide_eq_true (by kernel_rfl)) (by unfold Func.isWrapper; first | (rw [if_pos (by decide +kernel)]; kernel_rfl) | (rw [if_neg (by decide +kernel)]; exact ⟨rfl, rfl⟩))
    (fun os started H enc _ => lifted os started H enc)
theorem proved : Rows.ParsePrintsCardSaid :=
  Claim7.holds_tied_plain_at .later [] [.data, .data, .data, .handle, .sentinel, .sentinel] true (true, "cc09daf78215bf47e0e98f913cb9b7867409112eb953c9df78a6187d12586c5c") true
    row (fun _ h => by cases h) (by kernel_rfl) (fun _ h => by cases h) parsePrints_row_tie rfl ⟨rfl, rfl⟩ (by kernel_rfl) rfl
    (fun f fn hf hfn => by
      obtain rfl : f = 4 := Option.some.inj ((show Tryz.prog.funcNamed Tryz.f4.name = some 4 by kernel_rfl).symm.trans hf) |>.symm
      obtain rfl : fn = Tryz.f4 := (Option.some.inj (Tryz.func4.symm.trans hfn)).symm
      exact ⟨by kernel_rfl, fun j t ht => by
        rw [Tryz.params4] at ht
        have h3 : t = 25 := by
          rcases j with _ | j <;> simp at ht <;> (try subst ht) <;> simp
        rcases h3 with rfl
        · exact (show Tryz.prog.wantsStandIn 25 = false by kernel_rfl)⟩)
    (by kernel_rfl)
end Go.Proofs.YtgkjnilckmminaaGreatDoor.lawParsePrints
