/-
  For every input the law ClockOnTime returns true, and each argument reads behind the call as it read before. No condition.
-/
import Derived.Test.YtmohikdmdmplaaaGreatRows
import Derived.Test.YtmohikdmdmplaaaGreatOpen
import Derived.Test.YtmohikdmdmplaaaGreatClkO
set_option linter.unusedSimpArgs false
set_option linter.unusedVariables false
namespace Go.Proofs.YtmohikdmdmplaaaGreat.lawClockOnTime
open Go.L Go.Proofs.YtmohikdmdmplaaaGreat.L
open Go.ChangeShapes Go.WideShapes Go.ChangeAt Go.RowKit
open Go.ChangeMaps (open_string shut_string)
theorem own : ownKnob Tryz.prog.godebug = none := by kernel_rfl
theorem laidOut : laidOutB Tryz.prog = true := by kernel_rfl
set_option maxRecDepth 100000 in
theorem contract (H : Type) (enc : TypeId × Value → H) (W : World) (bs : Nat) (args : Array Value) (ds gs : List (DataW H)) (before : List MemPlace)
    (hval : ∀ (j : Nat) t v, Tryz.f5.params[j]? = some t → args[j]? = some v → Value.okWide Tryz.prog W .any bs t v)
    (hW : DataW.Whole enc Tryz.prog Tryz.f5.params.toList Rows.clockOnTimeSpec.vars false W args.toList ds gs before)
    (hz : (DataW.weightsEach Tryz.prog (Tryz.f5.params.toList ++ Rows.clockOnTimeSpec.plain.varTypes Tryz.prog) (ds ++ gs)).all (· ≤ reachBytes) = true) :
    Calls Tryz.prog 5 args W fun e W' => ∃ v, e = .returned v ∧ Rows.clockOnTimeSpec.post enc Tryz.prog Tryz.f5 false true false false W args v W' := by
  have hW' := hW
  obtain ⟨p, q, hA0, hV, rfl, hfz, hnd⟩ := hW
  have hA : DataW.TrodAll enc Tryz.prog W 0 (fun _ => true) true Tryz.f5.params.toList args.toList ds p := hA0
  rw [Tryz.params5] at hA hval
  obtain ⟨v0, vs0, d0, ds0, p0, q0, hargs, rfl, rfl, h0, r0⟩ := trodAll_cons hA
  obtain ⟨v1, vs1, d1, ds1, p1, q1, rfl, rfl, rfl, h1, r1⟩ := trodAll_cons r0
  obtain ⟨rfl, rfl, rfl⟩ := trodAll_nil r1
  obtain rfl : args = #[v0, v1] := by cases args; simp_all
  obtain ⟨rfl, rfl⟩ := trodVars_none hV
  have k0 := h0
  have lt0 : ∀ x ∈ p0, x.block < W.heap.size := by obtain ⟨m, hm⟩ := k0; exact DataW.trod_lt m _ _ _ hm
  obtain ⟨ad0, cap0, s0, hcs0, hg0, hm0, hsl0, hlen0⟩ : ∃ (a : Option Addr) (cap : Nat) (s : List Int), v0 = .slice a s.length cap ∧ (∀ q ∈ s, -9223372036854775808 ≤ q ∧ q ≤ 9223372036854775807) ∧ s.length ≤ maxLen ∧ SlR (hpOf W) (.slice a s.length cap) s.length (s.map (fun x : Int => Value.int .i64 x)) ∧ ((d0 = .nil ∧ s.length = 0) ∨ ∃ el sp, d0 = .slice el sp ∧ el.length = s.length) := by
    obtain ⟨fuel, hf⟩ := h0
    obtain ⟨a, cap, s, h1, h2, h3, h4, hlen⟩ := open_flat Tryz.underlying45 (by kernel_rfl) (fun x : Int => [Value.int .i64 x]) (fun q => -9223372036854775808 ≤ q ∧ q ≤ 9223372036854775807) (fun _ => rfl) (fun n cs' d hd => by
      obtain ⟨a, e0, _, w0⟩ := DataW.trod_int Tryz.underlying3 hd
      exact ⟨a, e0, by simpa [Lit.wf, IntKind.min, IntKind.max, IntKind.signed, IntKind.bits] using w0⟩) hf
    obtain ⟨a0, l0, c0, e0⟩ := okWide_slice Tryz.underlying45 (hval 0 45 v0 rfl rfl)
    subst e0
    simp only [Value.cells, Array.toList, List.cons.injEq, and_true] at h1
    have h5 := h4 (by decide)
    rw [← List.map_eq_flatMap] at h5
    exact ⟨a, cap, s, h1, h2, h3, h5, hlen⟩
  subst hcs0
  have hz0 := sized_of hz (j := 0) (by' := 8) rfl rfl Tryz.underlying45 (by kernel_rfl) hlen0
  haveI : InS W (.slice ad0 s0.length cap0) s0.length (s0.map (fun x : Int => Value.int .i64 x)) := ⟨hsl0⟩
  unfold maxLen at hm0
  obtain ⟨x1, rfl, rfl, rfl, w1⟩ := open_int Tryz.underlying3 (hval 1 3 v1 rfl rfl) h1
  have b1 : -9223372036854775808 ≤ x1 ∧ x1 ≤ 9223372036854775807 := by simpa [Lit.wf, IntKind.min, IntKind.max, IntKind.signed, IntKind.bits] using w1
  clear hA0
  refine (ontime_spec ad0 cap0 s0 hg0 hm0 x1 b1 (base W) W [] W (st_start W)).mono fun e W' ⟨v, Bs, he, ⟨hv, hB⟩, hst⟩ => ?_
  subst he hv hB
  have bel := below_of_st hst
  exact ⟨_, rfl, _, _, _, [], _, [], hW', trodAll_mk1 (shut_bool Tryz.underlying4 _), (trodAll_cons_mk (Below.trod laidOut (by kernel_rfl) (of_decide_eq_true (by kernel_rfl)) k0 bel lt0) (trodAll_cons_mk (shut_int Tryz.underlying3 w1) trodAll_mk0)), rfl, bel.frame _, fun h => by cases h⟩
set_option maxRecDepth 100000 in
theorem lifted (os : Os) (started : os.Started) (H : Type) (enc : TypeId × Value → H) :
    ReturnsInHanded {} Tryz.checked os 5 .any (Rows.clockOnTimeSpec.pre6 enc Tryz.prog Tryz.f5 Rows.clockOnTimeRow.domain false) (Rows.clockOnTimeSpec.post enc Tryz.prog Tryz.f5 false true false false) := by
  refine returnsInHanded_of_change_sized (C := Tryz.checked) own started (by kernel_rfl) Tryz.func5
    (ChangeSpec.witness6 (enc := enc) (C := Tryz.checked) false ⟨#[], #[.slice none 0 0, .int .i64 0], []⟩ 8 (by kernel_rfl) (by kernel_rfl) (by kernel_rfl) (by kernel_rfl)) ?_
  intro W bs args ds gs before hval hW _ hz _
  exact contract H enc W bs args ds gs before hval hW hz
theorem proved : Rows.ClockOnTimeSaid :=
  OpenClaim.holds_of_wide 5 Tryz.f5 rfl rfl rfl rfl rfl rfl rfl ⟨rfl, rfl, rfl, rfl, rfl⟩ rfl rfl rfl rfl rfl (by kernel_rfl) Tryz.func5 (by kernel_rfl)
    (of_decide_eq_true (by kernel_rfl)) (by unfold Func.isWrapper; first | (rw [if_pos (by decide +kernel)]; kernel_rfl) | (rw [if_neg (by decide +kernel)]; exact ⟨rfl, rfl⟩))
    (fun os started H enc _ => lifted os started H enc)
end Go.Proofs.YtmohikdmdmplaaaGreat.lawClockOnTime
