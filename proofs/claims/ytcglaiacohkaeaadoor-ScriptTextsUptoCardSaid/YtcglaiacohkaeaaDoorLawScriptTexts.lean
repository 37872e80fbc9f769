/-
  The law ScriptTexts returns true, and each argument reads behind the call as it read before, for every input whose reading is of bulk at most 1048576.
-/
import Derived.Deep.DeepHandedRow
import Derived.Test.YtcglaiacohkaeaaDoorRows
import Derived.Test.YtcglaiacohkaeaaDoorCards
import Derived.Test.YtcglaiacohkaeaaDoorTie
import Derived.Test.YtcglaiacohkaeaaDoorScrA
import Derived.Test.YtcglaiacohkaeaaDoorScrIn
import Derived.Test.YtcglaiacohkaeaaDoorScrM
set_option linter.unusedSimpArgs false
set_option linter.unusedVariables false
namespace Go.Proofs.YtcglaiacohkaeaaDoor.lawScriptTexts
open Go.L Go.Proofs.YtcglaiacohkaeaaDoor.L
open Go.ChangeShapes Go.WideShapes Go.ChangeAt Go.RowKit
open Go.ChangeMaps (open_string shut_string)
set_option maxRecDepth 100000 in
theorem contract (H : Type) (enc : TypeId × Value → H) (W : World) (bs : Nat) (args : Array Value) (ds gs : List (DataW H)) (before : List MemPlace)
    (hval : ∀ (j : Nat) t v, Tryd.f5.params[j]? = some t → args[j]? = some v → Value.okWide Tryd.prog W .any bs t v)
    (hW : DataW.Whole enc Tryd.prog Tryd.f5.params.toList Rows.scriptTextsSpec.vars false W args.toList ds gs before) (hk : Rows.uptoSmall H (ds ++ gs) = true) (hL : laidMetH Tryd.prog laidL W) (hSh : W.ShapedOpen Tryd.prog)
    (hz : (DataW.weightsEach Tryd.prog (Tryd.f5.params.toList ++ Rows.scriptTextsSpec.plain.varTypes Tryd.prog) (ds ++ gs)).all (· ≤ reachBytes) = true) :
    Calls Tryd.prog 5 args W fun e W' => ∃ v, e = .returned v ∧ Rows.scriptTextsSpec.post enc Tryd.prog Tryd.f5 false true false false W args v W' := by
  have hW' := hW
  obtain ⟨p, q, hA0, hV, rfl, hfz, hnd⟩ := hW
  have hA : DataW.TrodAll enc Tryd.prog W 0 (fun _ => true) true Tryd.f5.params.toList args.toList ds p := hA0
  rw [Tryd.params5] at hA hval
  obtain ⟨v0, vs0, d0, ds0, p0, q0, hargs, rfl, rfl, h0, r0⟩ := trodAll_cons hA
  obtain ⟨v1, vs1, d1, ds1, p1, q1, rfl, rfl, rfl, h1, r1⟩ := trodAll_cons r0
  obtain ⟨rfl, rfl, rfl⟩ := trodAll_nil r1
  obtain rfl : args = #[v0, v1] := by cases args; simp_all
  obtain ⟨rfl, rfl⟩ := trodVars_none hV
  have k0 := h0
  have lt0 : ∀ x ∈ p0, x.block < W.heap.size := by obtain ⟨m, hm⟩ := k0; exact DataW.trod_lt m _ _ _ hm
  have hu_0 := bulk_at hk (j := 0) rfl
  obtain ⟨ad0, cap0, s0, hcs0, hg0, hsl0, hn0⟩ : ∃ (a : Option Addr) (cap : Nat) (s : List Go.L.Sc.Ent), v0 = .slice a s.length cap ∧ (∀ q ∈ s, EntR q) ∧ SlR (hpOf W) (.slice a s.length cap) s.length (s.flatMap entC) ∧ s.length ≤ 1048576 := by
    obtain ⟨fuel, hf⟩ := h0
    obtain ⟨a, cap, s, h1, h2, h3, h4, hlen⟩ := open_flatD (fun d => Rows.uptoBulk d ≤ 1048576) Tryd.underlying45 (by kernel_rfl) entC EntR entC_len (fun n cs d h w => one_ent n cs d h w) (fun el sp e => (bulk_el (by rw [← e]; exact hu_0)).2) hf
    obtain ⟨a0, l0, c0, e0⟩ := okWide_slice Tryd.underlying45 (hval 0 45 v0 rfl rfl)
    subst e0
    simp only [Value.cells, Array.toList, List.cons.injEq, and_true] at h1
    refine ⟨a, cap, s, h1, h2, h4 (by decide), ?_⟩
    rcases hlen with ⟨_, e⟩ | ⟨el, sp, e, e2⟩
    · omega
    · dsimp only at e; rw [e] at hu_0; have := (bulk_el hu_0).1; omega
  subst hcs0
  haveI : InS W (.slice ad0 s0.length cap0) s0.length (s0.flatMap entC) := ⟨hsl0⟩
  obtain ⟨x1, rfl, rfl, rfl, w1⟩ := open_string Tryd.underlying9 (hval 1 9 v1 rfl rfl) h1
  clear hA0
  obtain ⟨⟨l1⟩⟩ := x1
  have z1 : l1.length ≤ 1048576 := bulk_str (bulk_at hk (j := 1) rfl)
  refine (ScriptTexts_spec (gok_of hL) (Tryd.spTm.s1_3 W hSh) (.slice ad0 s0.length cap0) s0 hg0 hn0 l1 z1 W [] W (st_start W)).mono fun e W' ⟨v, Bs, he, ⟨hv, hB⟩, hst⟩ => ?_
  subst he hv hB
  have bel := below_of_st hst
  exact ⟨_, rfl, _, _, _, [], _, [], hW', trodAll_mk1 (shut_bool Tryd.underlying4 _), (trodAll_cons_mk (Below.trod laidOut (by kernel_rfl) (of_decide_eq_true (by kernel_rfl)) k0 bel lt0) (trodAll_cons_mk (shut_string Tryd.underlying9 w1) trodAll_mk0)), rfl, bel.frame _, fun h => by cases h⟩

set_option maxRecDepth 100000 in
theorem reads (os : Os) {H : Type} (enc : TypeId × Value → H) : ∃ places, DataW.whole enc Tryd.prog ((laidWorld os).forCall (fun _ _ => 0) ⟨#[], #[.slice none 0 0, .string ByteArray.empty], []⟩).memory Tryd.f5.params.toList Rows.scriptTextsSpec.vars false (#[.slice none 0 0, .string ByteArray.empty] : Array Value).toList 8 = some ([.nil, .lit (.string [])], [], places) :=
  ⟨[], by kernel_rfl⟩
set_option maxRecDepth 100000 in
theorem lifted (os : Os) (started : os.Started) (H : Type) (enc : TypeId × Value → H) (F : Stop.Interp) :
    ReturnsInHanded {} Tryd.checked os 5 .any ((Rows.OpenSpec.upto Rows.scriptTextsSpec).preRow enc Tryd.prog Tryd.f5 Rows.scriptTextsUptoRow.domain false Rows.scriptTextsUptoRow.laid) (((Rows.OpenSpec.upto Rows.scriptTextsSpec).at F).post enc Tryd.prog Tryd.f5 false true false false) := by
  obtain ⟨places, hx⟩ := reads os enc
  refine returnsInHanded_of_row (C := Tryd.checked) (s := Rows.OpenSpec.upto Rows.scriptTextsSpec) own started (by kernel_rfl) Tryd.func5
    (witness_row_at (enc := enc) (C := Tryd.checked) false (laidWorld os) #[.slice none 0 0, .string ByteArray.empty] rfl (by kernel_rfl) (by kernel_rfl) (by kernel_rfl)
      (OpenSpec.preRow_of_cond 8 hx (by kernel_rfl) (fun k hk => by cases hk; kernel_rfl) (by kernel_rfl) (laidWorld_met os _))) ?_
  intro W bs args ds gs before hval hW _ hk hz hL hSh _
  exact contract H enc W bs args ds gs before hval hW (hk _ rfl) hL hSh hz
theorem row : Rows.ScriptTextsUptoSaid :=
  OpenClaim.holds_of_cond 5 Tryd.f5 rfl rfl rfl rfl rfl rfl rfl ⟨rfl, rfl, rfl, rfl, rfl⟩ rfl rfl rfl rfl rfl (by kernel_rfl) Tryd.func5 (by kernel_rfl)
    (of_decide_eq_true (by kernel_rfl)) (by unfold Func.isWrapper; first | (rw [if_pos (by decide +kernel)]; kernel_rfl) | (rw [if_neg (by decide +kernel)]; exact ⟨rfl, rfl⟩))
    (fun os started H enc _ F => by rw [OpenClaim.pre_eq_preRow]; exact lifted os started H enc F)
theorem proved : Rows.ScriptTextsUptoCardSaid :=
  Claim7.holds_tied_plain_at .later [] _ _ _ _
    row (fun _ h => by cases h) (by kernel_rfl) (fun _ h => by cases h) scriptTextsUpto_row_tie rfl ⟨rfl, rfl⟩ (by kernel_rfl) rfl
    (fun f fn hf hfn => by
      obtain rfl : f = 5 := Option.some.inj ((show Tryd.prog.funcNamed Tryd.f5.name = some 5 by kernel_rfl).symm.trans hf) |>.symm
      obtain rfl : fn = Tryd.f5 := (Option.some.inj (Tryd.func5.symm.trans hfn)).symm
      exact ⟨by kernel_rfl, fun j t ht => by
        rw [Tryd.params5] at ht
        have h3 : t = 9 ∨ t = 45 := by
          rcases j with _ | _ | j <;> simp at ht <;> (try subst ht) <;> simp
        rcases h3 with rfl | rfl
        · exact (show Tryd.prog.wantsStandIn 9 = false by kernel_rfl)
        · exact (show Tryd.prog.wantsStandIn 45 = false by kernel_rfl)⟩)
    (by kernel_rfl)
end Go.Proofs.YtcglaiacohkaeaaDoor.lawScriptTexts
