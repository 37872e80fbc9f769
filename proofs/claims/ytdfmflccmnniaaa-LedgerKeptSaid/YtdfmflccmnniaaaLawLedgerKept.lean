/-
  For every input the law LedgerKept returns true, and each argument reads behind the call as it read before. No condition.
-/
import Derived.Test.YtdfmflccmnniaaaRows
import Derived.Test.YtdfmflccmnniaaaLedgerIn
import Derived.Test.YtdfmflccmnniaaaLedgerO
namespace Go.Proofs.Ytdfmflccmnniaaa.lawLedgerKept
open Go.L Go.Proofs.Ytdfmflccmnniaaa.L
open Go.ChangeShapes Go.WideShapes Go.ChangeAt Go.RowKit
open Go.ChangeMaps (open_string shut_string)
theorem own : ownKnob Try.prog.godebug = none := by kernel_rfl
theorem laidOut : laidOutB Try.prog = true := by kernel_rfl
theorem contract (H : Type) (enc : TypeId × Value → H) (W : World) (bs : Nat) (args : Array Value) (ds gs : List (DataW H)) (before : List MemPlace)
    (hval : ∀ (j : Nat) t v, Try.f6.params[j]? = some t → args[j]? = some v → Value.okWide Try.prog W .any bs t v)
    (hW : DataW.Whole enc Try.prog Try.f6.params.toList Rows.ledgerKeptSpec.vars false W args.toList ds gs before) :
    Calls Try.prog 6 args W fun e W' => ∃ v, e = .returned v ∧ Rows.ledgerKeptSpec.post enc Try.prog Try.f6 false true false false W args v W' := by
  have hW' := hW
  obtain ⟨p, q, hA0, hV, rfl, hfz, hnd⟩ := hW
  have hA : DataW.TrodAll enc Try.prog W 0 (fun _ => true) true Try.f6.params.toList args.toList ds p := hA0
  rw [Try.params6] at hA hval
  obtain ⟨v0, vs0, d0, ds0, p0, q0, hargs, rfl, rfl, h0, r0⟩ := trodAll_cons hA
  obtain ⟨v1, vs1, d1, ds1, p1, q1, rfl, rfl, rfl, h1, r1⟩ := trodAll_cons r0
  obtain ⟨rfl, rfl, rfl⟩ := trodAll_nil r1
  obtain rfl : args = #[v0, v1] := by cases args; simp_all
  obtain ⟨rfl, rfl⟩ := trodVars_none hV
  have k0 := h0
  have lt0 : ∀ x ∈ p0, x.block < W.heap.size := by obtain ⟨m, hm⟩ := k0; exact DataW.trod_lt m _ _ _ hm
  obtain ⟨ad0, cap0, s0, hcs0, hg0, hm0, hsl0⟩ : ∃ (a : Option Addr) (cap : Nat) (s : List (Int × Int × Int)), v0 = .slice a s.length cap ∧ (∀ q ∈ s, (fun q => 0 ≤ q.1 ∧ q.1 ≤ 255) q) ∧ s.length ≤ maxLen ∧ SlR (hpOf W) (.slice a s.length cap) s.length (s.flatMap oe) := by
    obtain ⟨fuel, hf⟩ := h0
    obtain ⟨a, cap, s, h1, h2, h3, h4⟩ := open_flat Try.underlying22 (by kernel_rfl) oe (fun q => 0 ≤ q.1 ∧ q.1 ≤ 255) oe_len one_op hf
    obtain ⟨a0, l0, c0, e0⟩ := okWide_slice Try.underlying22 (hval 0 22 v0 rfl rfl)
    subst e0
    simp only [Value.cells, Array.toList, List.cons.injEq, and_true] at h1
    exact ⟨a, cap, s, h1, h2, h3, h4 (by decide)⟩
  subst hcs0
  haveI : InS W (.slice ad0 s0.length cap0) s0.length (s0.flatMap oe) := ⟨hsl0⟩
  unfold maxLen at hm0
  have k1 := h1
  have lt1 : ∀ x ∈ p1, x.block < W.heap.size := by obtain ⟨m, hm⟩ := k1; exact DataW.trod_lt m _ _ _ hm
  obtain ⟨z0_1, z1_1, z2_1, y0_1, y1_1, y2_1, n_1, e_1, ed_1, ep_1, t0_1, t1_1, t2_1⟩ := Go.Joins.open_agg3 Try.underlying31 (by kernel_rfl) (by kernel_rfl) (hval 1 31 v1 rfl rfl) h1
  obtain ⟨a_1, e0_1, _, w0_1⟩ := DataW.trod_int Try.underlying5 t0_1
  obtain ⟨b_1, e1_1, _, _⟩ := DataW.trod_int Try.underlying29 t1_1
  obtain ⟨c_1, e2_1, _, _⟩ := DataW.trod_int Try.underlying3 t2_1
  simp at e0_1 e1_1 e2_1
  subst e0_1 e1_1 e2_1 e_1
  have g0_1 : 0 ≤ a_1 ∧ a_1 ≤ 255 := by simpa [Lit.wf, IntKind.min, IntKind.max, IntKind.signed, IntKind.bits] using w0_1
  clear hA0
  refine (kept_spec ad0 cap0 s0 hg0 hm0 (a_1, b_1, c_1) g0_1.1 (base W) W [] W (st_start W)).mono fun e W' ⟨v, Bs, he, ⟨hv, hB⟩, hst⟩ => ?_
  subst he hv hB
  have bel := below_of_st hst
  exact ⟨_, rfl, _, _, _, [], _, [], hW', trodAll_mk1 (shut_bool Try.underlying4 _), (trodAll_cons_mk (Below.trod laidOut (by kernel_rfl) (of_decide_eq_true (by kernel_rfl)) k0 bel lt0) (trodAll_cons_mk (Below.trod laidOut (by kernel_rfl) (of_decide_eq_true (by kernel_rfl)) k1 bel lt1) trodAll_mk0)), rfl, bel.frame _, fun h => by cases h⟩
set_option maxRecDepth 100000 in
theorem lifted (os : Os) (started : os.Started) (H : Type) (enc : TypeId × Value → H) :
    ReturnsInHanded {} Try.checked os 6 .any (Rows.ledgerKeptSpec.pre6 enc Try.prog Try.f6 Rows.ledgerKeptRow.domain false) (Rows.ledgerKeptSpec.post enc Try.prog Try.f6 false true false false) := by
  refine returnsInHanded_of_change (C := Try.checked) own started (by kernel_rfl) Try.func6
    (ChangeSpec.witness6 (enc := enc) (C := Try.checked) false ⟨#[], #[.slice none 0 0, .agg #[.int .u8 0, .int .u64 0, .int .i64 0]], []⟩ 8 (by kernel_rfl) (by kernel_rfl) (by kernel_rfl) (by kernel_rfl)) ?_
  intro W bs args ds gs before hval hW _ _
  exact contract H enc W bs args ds gs before hval hW
theorem proved : Rows.LedgerKeptSaid :=
  OpenClaim.holds_of_wide 6 Try.f6 rfl rfl rfl rfl rfl rfl rfl ⟨rfl, rfl, rfl, rfl, rfl⟩ rfl rfl rfl rfl rfl (by kernel_rfl) Try.func6 (by kernel_rfl)
    (of_decide_eq_true (by kernel_rfl)) (by unfold Func.isWrapper; first | (rw [if_pos (by decide +kernel)]; kernel_rfl) | (rw [if_neg (by decide +kernel)]; exact ⟨rfl, rfl⟩))
    (fun os started H enc _ => lifted os started H enc)
end Go.Proofs.Ytdfmflccmnniaaa.lawLedgerKept
