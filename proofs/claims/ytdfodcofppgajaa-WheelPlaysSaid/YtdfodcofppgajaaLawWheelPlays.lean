/-
  For every input the law WheelPlays returns true, and each argument reads behind the call as it read before. No condition.
-/
import Derived.Test.YtdfodcofppgajaaRows
import Derived.Test.YtdfodcofppgajaaOpen
import Derived.Test.YtdfodcofppgajaaWheelIn
namespace Go.Proofs.Ytdfodcofppgajaa.lawWheelPlays
open Go.L Go.Proofs.Ytdfodcofppgajaa.L
open Go.ChangeShapes Go.WideShapes Go.ChangeAt Go.RowKit
open Go.ChangeMaps (open_string shut_string)
theorem own : ownKnob Try.prog.godebug = none := by kernel_rfl
theorem laidOut : laidOutB Try.prog = true := by kernel_rfl
set_option maxRecDepth 100000 in
theorem contract (H : Type) (enc : TypeId × Value → H) (W : World) (bs : Nat) (args : Array Value) (ds gs : List (DataW H)) (before : List MemPlace)
    (hval : ∀ (j : Nat) t v, Try.f8.params[j]? = some t → args[j]? = some v → Value.okWide Try.prog W .any bs t v)
    (hW : DataW.Whole enc Try.prog Try.f8.params.toList Rows.wheelPlaysSpec.vars false W args.toList ds gs before)
    (hz : (DataW.weightsEach Try.prog (Try.f8.params.toList ++ Rows.wheelPlaysSpec.plain.varTypes Try.prog) (ds ++ gs)).all (· ≤ reachBytes) = true) :
    Calls Try.prog 8 args W fun e W' => ∃ v, e = .returned v ∧ Rows.wheelPlaysSpec.post enc Try.prog Try.f8 false true false false W args v W' := by
  have hW' := hW
  obtain ⟨p, q, hA0, hV, rfl, hfz, hnd⟩ := hW
  have hA : DataW.TrodAll enc Try.prog W 0 (fun _ => true) true Try.f8.params.toList args.toList ds p := hA0
  rw [Try.params8] at hA hval
  obtain ⟨v0, vs0, d0, ds0, p0, q0, hargs, rfl, rfl, h0, r0⟩ := trodAll_cons hA
  obtain ⟨rfl, rfl, rfl⟩ := trodAll_nil r0
  obtain rfl : args = #[v0] := by cases args; simp_all
  obtain ⟨rfl, rfl⟩ := trodVars_none hV
  have k0 := h0
  have lt0 : ∀ x ∈ p0, x.block < W.heap.size := by obtain ⟨m, hm⟩ := k0; exact DataW.trod_lt m _ _ _ hm
  obtain ⟨ad0, cap0, s0, hcs0, hg0, hm0, hsl0, hlen0⟩ : ∃ (a : Option Addr) (cap : Nat) (s : List (Int × Int × Int)), v0 = .slice a s.length cap ∧ (∀ q ∈ s, wGood q) ∧ s.length ≤ maxLen ∧ SlR (hpOf W) (.slice a s.length cap) s.length (s.flatMap sW) ∧ ((d0 = .nil ∧ s.length = 0) ∨ ∃ el sp, d0 = .slice el sp ∧ el.length = s.length) := by
    obtain ⟨fuel, hf⟩ := h0
    obtain ⟨a, cap, s, h1, h2, h3, h4, hlen⟩ := open_flat Try.underlying44 (by kernel_rfl) sW wGood sW_len one_w hf
    obtain ⟨a0, l0, c0, e0⟩ := okWide_slice Try.underlying44 (hval 0 44 v0 rfl rfl)
    subst e0
    simp only [Value.cells, Array.toList, List.cons.injEq, and_true] at h1
    exact ⟨a, cap, s, h1, h2, h3, h4 (by decide), hlen⟩
  subst hcs0
  have hz0 := sized_of hz (j := 0) (by' := 24) rfl rfl Try.underlying44 (by kernel_rfl) hlen0
  haveI : InS W (.slice ad0 s0.length cap0) s0.length (s0.flatMap sW) := ⟨hsl0⟩
  unfold maxLen at hm0
  clear hA0
  refine (wplays_spec ad0 cap0 s0 hg0 (by omega) (base W) W [] W (st_start W)).mono fun e W' ⟨v, Bs, he, ⟨hv, hB⟩, hst⟩ => ?_
  subst he hv hB
  have bel := below_of_st hst
  exact ⟨_, rfl, _, _, _, [], _, [], hW', trodAll_mk1 (shut_bool Try.underlying4 _), (trodAll_cons_mk (Below.trod laidOut (by kernel_rfl) (of_decide_eq_true (by kernel_rfl)) k0 bel lt0) trodAll_mk0), rfl, bel.frame _, fun h => by cases h⟩
set_option maxRecDepth 100000 in
theorem lifted (os : Os) (started : os.Started) (H : Type) (enc : TypeId × Value → H) :
    ReturnsInHanded {} Try.checked os 8 .any (Rows.wheelPlaysSpec.pre6 enc Try.prog Try.f8 Rows.wheelPlaysRow.domain false) (Rows.wheelPlaysSpec.post enc Try.prog Try.f8 false true false false) := by
  refine returnsInHanded_of_change_sized (C := Try.checked) own started (by kernel_rfl) Try.func8
    (ChangeSpec.witness6 (enc := enc) (C := Try.checked) false ⟨#[], #[.slice none 0 0], []⟩ 8 (by kernel_rfl) (by kernel_rfl) (by kernel_rfl) (by kernel_rfl)) ?_
  intro W bs args ds gs before hval hW _ hz _
  exact contract H enc W bs args ds gs before hval hW hz
theorem proved : Rows.WheelPlaysSaid :=
  OpenClaim.holds_of_wide 8 Try.f8 rfl rfl rfl rfl rfl rfl rfl ⟨rfl, rfl, rfl, rfl, rfl⟩ rfl rfl rfl rfl rfl (by kernel_rfl) Try.func8 (by kernel_rfl)
    (of_decide_eq_true (by kernel_rfl)) (by unfold Func.isWrapper; first | (rw [if_pos (by decide +kernel)]; kernel_rfl) | (rw [if_neg (by decide +kernel)]; exact ⟨rfl, rfl⟩))
    (fun os started H enc _ => lifted os started H enc)
end Go.Proofs.Ytdfodcofppgajaa.lawWheelPlays
