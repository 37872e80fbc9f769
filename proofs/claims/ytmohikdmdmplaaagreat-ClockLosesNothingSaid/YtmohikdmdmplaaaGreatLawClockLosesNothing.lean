/-
  For every input the law ClockLosesNothing returns true, and each argument reads behind the call as it read before. No condition.
-/
import Derived.Test.YtmohikdmdmplaaaGreatRows
import Derived.Test.YtmohikdmdmplaaaGreatOpen
import Derived.Test.YtmohikdmdmplaaaGreatClkS
set_option linter.unusedSimpArgs false
set_option linter.unusedVariables false
namespace Go.Proofs.YtmohikdmdmplaaaGreat.lawClockLosesNothing
open Go.L Go.Proofs.YtmohikdmdmplaaaGreat.L
open Go.ChangeShapes Go.WideShapes Go.ChangeAt Go.RowKit
open Go.ChangeMaps (open_string shut_string)
theorem own : ownKnob Tryz.prog.godebug = none := by kernel_rfl
theorem laidOut : laidOutB Tryz.prog = true := by kernel_rfl
set_option maxRecDepth 100000 in
theorem contract (H : Type) (enc : TypeId × Value → H) (W : World) (bs : Nat) (args : Array Value) (ds gs : List (DataW H)) (before : List MemPlace)
    (hval : ∀ (j : Nat) t v, Tryz.f6.params[j]? = some t → args[j]? = some v → Value.okWide Tryz.prog W .any bs t v)
    (hW : DataW.Whole enc Tryz.prog Tryz.f6.params.toList Rows.clockLosesNothingSpec.vars false W args.toList ds gs before)
    (hz : (DataW.weightsEach Tryz.prog (Tryz.f6.params.toList ++ Rows.clockLosesNothingSpec.plain.varTypes Tryz.prog) (ds ++ gs)).all (· ≤ reachBytes) = true) :
    Calls Tryz.prog 6 args W fun e W' => ∃ v, e = .returned v ∧ Rows.clockLosesNothingSpec.post enc Tryz.prog Tryz.f6 false true false false W args v W' := by
  have hW' := hW
  obtain ⟨p, q, hA0, hV, rfl, hfz, hnd⟩ := hW
  have hA : DataW.TrodAll enc Tryz.prog W 0 (fun _ => true) true Tryz.f6.params.toList args.toList ds p := hA0
  rw [Tryz.params6] at hA hval
  obtain ⟨v0, vs0, d0, ds0, p0, q0, hargs, rfl, rfl, h0, r0⟩ := trodAll_cons hA
  obtain ⟨v1, vs1, d1, ds1, p1, q1, rfl, rfl, rfl, h1, r1⟩ := trodAll_cons r0
  obtain ⟨v2, vs2, d2, ds2, p2, q2, rfl, rfl, rfl, h2, r2⟩ := trodAll_cons r1
  obtain ⟨rfl, rfl, rfl⟩ := trodAll_nil r2
  obtain rfl : args = #[v0, v1, v2] := by cases args; simp_all
  obtain ⟨rfl, rfl⟩ := trodVars_none hV
  obtain ⟨x0, rfl, rfl, rfl, w0⟩ := open_int Tryz.underlying5 (hval 0 5 v0 rfl rfl) h0
  have b0 : 0 ≤ x0 ∧ x0 ≤ 255 := by simpa [Lit.wf, IntKind.min, IntKind.max, IntKind.signed, IntKind.bits] using w0
  have k1 := h1
  have lt1 : ∀ x ∈ p1, x.block < W.heap.size := by obtain ⟨m, hm⟩ := k1; exact DataW.trod_lt m _ _ _ hm
  obtain ⟨ad1, cap1, s1, hcs1, hg1, hm1, hsl1, hlen1⟩ : ∃ (a : Option Addr) (cap : Nat) (s : List Int), v1 = .slice a s.length cap ∧ (∀ q ∈ s, -9223372036854775808 ≤ q ∧ q ≤ 9223372036854775807) ∧ s.length ≤ maxLen ∧ SlR (hpOf W) (.slice a s.length cap) s.length (s.map (fun x : Int => Value.int .i64 x)) ∧ ((d1 = .nil ∧ s.length = 0) ∨ ∃ el sp, d1 = .slice el sp ∧ el.length = s.length) := by
    obtain ⟨fuel, hf⟩ := h1
    obtain ⟨a, cap, s, h1, h2, h3, h4, hlen⟩ := open_flat Tryz.underlying45 (by kernel_rfl) (fun x : Int => [Value.int .i64 x]) (fun q => -9223372036854775808 ≤ q ∧ q ≤ 9223372036854775807) (fun _ => rfl) (fun n cs' d hd => by
      obtain ⟨a, e0, _, w0⟩ := DataW.trod_int Tryz.underlying3 hd
      exact ⟨a, e0, by simpa [Lit.wf, IntKind.min, IntKind.max, IntKind.signed, IntKind.bits] using w0⟩) hf
    obtain ⟨a0, l0, c0, e0⟩ := okWide_slice Tryz.underlying45 (hval 1 45 v1 rfl rfl)
    subst e0
    simp only [Value.cells, Array.toList, List.cons.injEq, and_true] at h1
    have h5 := h4 (by decide)
    rw [← List.map_eq_flatMap] at h5
    exact ⟨a, cap, s, h1, h2, h3, h5, hlen⟩
  subst hcs1
  have hz1 := sized_of hz (j := 1) (by' := 8) rfl rfl Tryz.underlying45 (by kernel_rfl) hlen1
  haveI : InS W (.slice ad1 s1.length cap1) s1.length (s1.map (fun x : Int => Value.int .i64 x)) := ⟨hsl1⟩
  unfold maxLen at hm1
  have k2 := h2
  have lt2 : ∀ x ∈ p2, x.block < W.heap.size := by obtain ⟨m, hm⟩ := k2; exact DataW.trod_lt m _ _ _ hm
  obtain ⟨ad2, cap2, s2, hcs2, hg2, hm2, hsl2, hlen2⟩ : ∃ (a : Option Addr) (cap : Nat) (s : List Int), v2 = .slice a s.length cap ∧ (∀ q ∈ s, 0 ≤ q ∧ q ≤ 255) ∧ s.length ≤ maxLen ∧ SlR (hpOf W) (.slice a s.length cap) s.length (s.map (fun x : Int => Value.int .u8 x)) ∧ ((d2 = .nil ∧ s.length = 0) ∨ ∃ el sp, d2 = .slice el sp ∧ el.length = s.length) := by
    obtain ⟨fuel, hf⟩ := h2
    obtain ⟨a, cap, s, h1, h2, h3, h4, hlen⟩ := open_flat Tryz.underlying66 (by kernel_rfl) (fun x : Int => [Value.int .u8 x]) (fun q => 0 ≤ q ∧ q ≤ 255) (fun _ => rfl) (fun n cs' d hd => by
      obtain ⟨a, e0, _, w0⟩ := DataW.trod_int Tryz.underlying5 hd
      exact ⟨a, e0, by simpa [Lit.wf, IntKind.min, IntKind.max, IntKind.signed, IntKind.bits] using w0⟩) hf
    obtain ⟨a0, l0, c0, e0⟩ := okWide_slice Tryz.underlying66 (hval 2 66 v2 rfl rfl)
    subst e0
    simp only [Value.cells, Array.toList, List.cons.injEq, and_true] at h1
    have h5 := h4 (by decide)
    rw [← List.map_eq_flatMap] at h5
    exact ⟨a, cap, s, h1, h2, h3, h5, hlen⟩
  subst hcs2
  have hz2 := sized_of hz (j := 2) (by' := 1) rfl rfl Tryz.underlying66 (by kernel_rfl) hlen2
  haveI : InS W (.slice ad2 s2.length cap2) s2.length (s2.map (fun x : Int => Value.int .u8 x)) := ⟨hsl2⟩
  unfold maxLen at hm2
  clear hA0
  obtain ⟨s0, rfl⟩ : ∃ s : Nat, x0 = s := ⟨x0.toNat, by omega⟩
  refine (loses_spec s0 (by omega) ad1 cap1 s1 hg1 hm1 ad2 cap2 s2 hg2 hm2 (base W) W [] W (st_start W)).mono fun e W' ⟨v, Bs, he, ⟨hv, hB⟩, hst⟩ => ?_
  subst he hv hB
  have bel := below_of_st hst
  exact ⟨_, rfl, _, _, _, [], _, [], hW', trodAll_mk1 (shut_bool Tryz.underlying4 _), (trodAll_cons_mk (shut_int Tryz.underlying5 w0) (trodAll_cons_mk (Below.trod laidOut (by kernel_rfl) (of_decide_eq_true (by kernel_rfl)) k1 bel lt1) (trodAll_cons_mk (Below.trod laidOut (by kernel_rfl) (of_decide_eq_true (by kernel_rfl)) k2 bel lt2) trodAll_mk0))), rfl, bel.frame _, fun h => by cases h⟩
set_option maxRecDepth 100000 in
theorem lifted (os : Os) (started : os.Started) (H : Type) (enc : TypeId × Value → H) :
    ReturnsInHanded {} Tryz.checked os 6 .any (Rows.clockLosesNothingSpec.pre6 enc Tryz.prog Tryz.f6 Rows.clockLosesNothingRow.domain false) (Rows.clockLosesNothingSpec.post enc Tryz.prog Tryz.f6 false true false false) := by
  refine returnsInHanded_of_change_sized (C := Tryz.checked) own started (by kernel_rfl) Tryz.func6
    (ChangeSpec.witness6 (enc := enc) (C := Tryz.checked) false ⟨#[], #[.int .u8 0, .slice none 0 0, .slice none 0 0], []⟩ 8 (by kernel_rfl) (by kernel_rfl) (by kernel_rfl) (by kernel_rfl)) ?_
  intro W bs args ds gs before hval hW _ hz _
  exact contract H enc W bs args ds gs before hval hW hz
theorem proved : Rows.ClockLosesNothingSaid :=
  OpenClaim.holds_of_wide 6 Tryz.f6 rfl rfl rfl rfl rfl rfl rfl ⟨rfl, rfl, rfl, rfl, rfl⟩ rfl rfl rfl rfl rfl (by kernel_rfl) Tryz.func6 (by kernel_rfl)
    (of_decide_eq_true (by kernel_rfl)) (by unfold Func.isWrapper; first | (rw [if_pos (by decide +kernel)]; kernel_rfl) | (rw [if_neg (by decide +kernel)]; exact ⟨rfl, rfl⟩))
    (fun os started H enc _ => lifted os started H enc)
end Go.Proofs.YtmohikdmdmplaaaGreat.lawClockLosesNothing
