/-
  RingOrder, RingBound: a whole run. Own work, printed in part by a program of its own.
-/
import Derived.Test.YtnkcgfllehohbaaRingX
namespace Go.Proofs.Ytnkcgfllehohbaa.L
open Go.L Go.L.Ring
theorem crowd_start {q r m n : Nat} {a1 a2 a3 : Option Addr} {c1 c2 c3 : Nat} {t : Int} {R : List Assn} : ∀ h, Sat (cel q 52 [ptr r 0, .slice a1 3 c1, .slice a2 3 c2, .slice a3 3 c3, .pointer none, I64 0, .slice none 0 0, I64 0, I64 0] ::
    own (.slice a1 3 c1) 50 1 3 [.pointer none, .pointer none, .pointer none] :: own (.slice a2 3 c2) 28 1 3 [U64 0, U64 0, U64 0] :: own (.slice a3 3 c3) 35 1 3 [.slice none 0 0, .slice none 0 0, .slice none 0 0] ::
    memA m (List.replicate (2 + 2 * n) 0) t :: ringA r m 0 n :: R) h → Sat (crowdA q r m n (c0 n) :: R) h := fun h s => by
  refine crowd_close (c := c0 n) ⟨a1, c1, a2, c2, a3, c3, none, 0, 0, [none, none, none], [⟨none, 0, 0, []⟩, ⟨none, 0, 0, []⟩, ⟨none, 0, 0, []⟩], none, t⟩ ⟨rfl, rfl, rfl, by simp, rfl⟩ (fun h s => ?_) h s
  have s1 := own_nil0 (e := 28) (sz := 1) h s
  have f1 : Sat (fam [iA ⟨none, 0, 0, []⟩, iA ⟨none, 0, 0, []⟩, iA ⟨none, 0, 0, []⟩] :: _) h := Sat.flat.2 (own_nil0 (e := 28) (sz := 1) h (own_nil0 (e := 28) (sz := 1) h (own_nil0 (e := 28) (sz := 1) h s1)))
  have f2 : Sat (fam [emp, emp, emp] :: _) h := Sat.flat.2 (emp0 h (emp0 h (emp0 h f1)))
  have f3 := emp0 h f2
  revert f3
  exact (To.sat (by repeat (first | exact .nil | exact .done .refl | (apply To.cons; · (repeat (first | exact .head | apply Sel.tail))) | exact .done (by repeat (first | exact .refl | apply Drop.skip))))) h
theorem o_neqO {P : Program} {W0 : World} {n : Nat} {sl : Slots} {As : List Assn} {ty t t' : TypeId} {x y : Operand} {z : Option (Nat × RO)} [i : TPtr P t] (hx : opv sl x = some (oV z)) (hy : opv sl y = some (.pointer none)) : OV P W0 n (.binOp .neq t x y t') ty sl As (.bool z.isSome) := by
  cases z with
  | none => exact o_neqnn hx hy
  | some q => exact o_neqPn hx hy
theorem get_any {xs : List (Option (Nat × RO))} {ps : List (Option RO)} (e : xs.map (Option.map Prod.snd) = ps) (lp : ps.length = 3) {p : Nat} (hp : p < 3) : ∃ z, xs[p]? = some z ∧ ps.getD p none = z.map Prod.snd := by
  subst e
  rw [List.length_map] at lp
  exact ⟨xs[p], List.getElem?_eq_getElem (by omega), by rw [List.getD_eq_getElem?_getD, List.getElem?_map, List.getElem?_eq_getElem (by omega)]; rfl⟩
theorem tmod8y (s : Nat) : (s : Int).tmod 8 = ((s % 8 : Nat) : Int) := by rw [Int.tmod_eq_emod_of_nonneg (by omega)]; omega

set_option maxRecDepth 8000 in
theorem run_spec (n : Nat) (h1 : 1 ≤ n) (h8 : n ≤ 8) (a : Option Addr) (c : Nat) (vs : List Int) (hvs : ∀ x ∈ vs, 0 ≤ x ∧ x ≤ 255) (hm : vs.length ≤ 140737488351232) (A : Assn) [RdA (.slice a vs.length c) A vs.length (vs.map (fun x => Value.int .u8 x))] : FnS Try.prog 20 [I64 n, .slice a vs.length c] [A]
      (fun u Bs => ∃ q r m c hs, u = ptr q 0 ∧ CE n c hs ∧ Bs = [crowdA q r m n c, A]) := by
  refine fn_body Try.func20 rfl rfl rfl ?_
  intro W0 R
  simp only [List.zipIdx_cons, List.zipIdx_nil, List.map_cons, List.map_nil, Nat.zero_add, Nat.reduceAdd, List.cons_append, List.nil_append]
  have h7 : n ≤ 64 := by omega
  refine g_seq ?_
  refine g_region ?_
  refine gl_v rfl (o_assign rfl) ?_
  refine gl_nil ?_
  refine ge_then ?_
  refine g_cut (fun act wo => ∃ (q r m : Nat) (t : Int) (a1 a2 a3 : Option Addr) (c1 c2 c3 : Nat), HasSl Try.f20.ntmps [(5, ptr q 0), (1, .slice a vs.length c)] act ∧ St W0 (cel q 52 [ptr r 0, .slice a1 3 c1, .slice a2 3 c2, .slice a3 3 c3, .pointer none, I64 0, .slice none 0 0, I64 0, I64 0] :: own (.slice a1 3 c1) 50 1 3 [.pointer none, .pointer none, .pointer none] :: own (.slice a2 3 c2) 28 1 3 [U64 0, U64 0, U64 0] :: own (.slice a3 3 c3) 35 1 3 [.slice none 0 0, .slice none 0 0, .slice none 0 0] :: memA m (List.replicate (2 + 2 * n) 0) t :: ringA r m 0 n :: A :: R) wo) ?_ ?_
  ·
    refine g_tree [1, 2, 3, 4, 6] [2, 3, 4] (.stab 0 (.eff 1 (.eff 2 (.eff 3 (.eff 4 (.loc 5 (.eff 6 (.loc 7 .nil) .nil)) .nil) (.eff 4 (.eff 3 (.loc 5 (.eff 6 (.loc 7 .nil) .nil)) .nil) .nil)) (.eff 3 (.eff 2 (.eff 4 (.loc 5 (.eff 6 (.loc 7 .nil) .nil)) .nil) (.eff 4 (.eff 2 (.loc 5 (.eff 6 (.loc 7 .nil) .nil)) .nil) .nil)) (.eff 4 (.eff 2 (.eff 3 (.loc 5 (.eff 6 (.loc 7 .nil) .nil)) .nil) (.eff 3 (.eff 2 (.loc 5 (.eff 6 (.loc 7 .nil) .nil)) .nil) .nil)) .nil))) (.eff 2 (.eff 1 (.eff 3 (.eff 4 (.loc 5 (.eff 6 (.loc 7 .nil) .nil)) .nil) (.eff 4 (.eff 3 (.loc 5 (.eff 6 (.loc 7 .nil) .nil)) .nil) .nil)) (.eff 3 (.eff 1 (.eff 4 (.loc 5 (.eff 6 (.loc 7 .nil) .nil)) .nil) (.eff 4 (.eff 1 (.loc 5 (.eff 6 (.loc 7 .nil) .nil)) .nil) .nil)) (.eff 4 (.eff 1 (.eff 3 (.loc 5 (.eff 6 (.loc 7 .nil) .nil)) .nil) (.eff 3 (.eff 1 (.loc 5 (.eff 6 (.loc 7 .nil) .nil)) .nil) .nil)) .nil))) (.eff 3 (.eff 1 (.eff 2 (.eff 4 (.loc 5 (.eff 6 (.loc 7 .nil) .nil)) .nil) (.eff 4 (.eff 2 (.loc 5 (.eff 6 (.loc 7 .nil) .nil)) .nil) .nil)) (.eff 2 (.eff 1 (.eff 4 (.loc 5 (.eff 6 (.loc 7 .nil) .nil)) .nil) (.eff 4 (.eff 1 (.loc 5 (.eff 6 (.loc 7 .nil) .nil)) .nil) .nil)) (.eff 4 (.eff 1 (.eff 2 (.loc 5 (.eff 6 (.loc 7 .nil) .nil)) .nil) (.eff 2 (.eff 1 (.loc 5 (.eff 6 (.loc 7 .nil) .nil)) .nil) .nil)) .nil))) (.eff 4 (.eff 1 (.eff 2 (.eff 3 (.loc 5 (.eff 6 (.loc 7 .nil) .nil)) .nil) (.eff 3 (.eff 2 (.loc 5 (.eff 6 (.loc 7 .nil) .nil)) .nil) .nil)) (.eff 2 (.eff 1 (.eff 3 (.loc 5 (.eff 6 (.loc 7 .nil) .nil)) .nil) (.eff 3 (.eff 1 (.loc 5 (.eff 6 (.loc 7 .nil) .nil)) .nil) .nil)) (.eff 3 (.eff 1 (.eff 2 (.loc 5 (.eff 6 (.loc 7 .nil) .nil)) .nil) (.eff 2 (.eff 1 (.loc 5 (.eff 6 (.loc 7 .nil) .nil)) .nil) .nil)) .nil))) .nil))))) [] mixed (by kernel_rfl) ?_
    refine gt_vs rfl .none rfl (o_move rfl) (fun _ _ => trivial) ?_
    refine gt_alts ?_ ?_
    ·
      refine gt_c rfl .none rfl (o_call rfl (made_spec n h1 h7) (by repeat (first | exact .nil | (apply Part.cons; · (repeat (first | exact .head | apply Sel.tail)))))) ?_
      rintro _ R ⟨_, ⟨r, m, t, rfl, rfl⟩, rfl⟩
      try simp only [List.cons_append, List.nil_append]
      refine ⟨(fun hG => absurd hG (by decide)), ?_⟩
      refine gt_alts ?_ ?_
      ·
        refine gt_n rfl .none rfl (o_makeS (k := 3) rfl rfl (by unfold maxLen; omega) (by omega)) ?_
        rintro _ _ ⟨a14, c14, rfl, rfl⟩
        refine ⟨(fun _ => (fun _ _ => trivial)), ?_⟩
        refine gt_alts ?_ ?_
        ·
          refine gt_n rfl .none rfl (o_makeS (k := 3) rfl rfl (by unfold maxLen; omega) (by omega)) ?_
          rintro _ _ ⟨a15, c15, rfl, rfl⟩
          refine ⟨(fun _ => (fun _ _ => trivial)), ?_⟩
          refine gt_n rfl .none rfl (o_makeS (k := 3) rfl rfl (by unfold maxLen; omega) (by omega)) ?_
          rintro _ _ ⟨a16, c16, rfl, rfl⟩
          refine ⟨(fun _ => (fun _ _ => trivial)), ?_⟩
          refine gt_v rfl .none rfl (o_build rfl rfl) ?_
          refine gt_n rfl .none rfl (o_boxA rfl) ?_
          rintro _ _ ⟨b18, rfl, rfl⟩
          refine ⟨(fun hG => absurd hG (by decide)), ?_⟩
          refine gt_v rfl .none rfl (o_assign rfl) ?_
          refine gt_nil ?_
          exact fun act wo hsl st => ⟨b18, r, m, t, a14, a15, a16, c14, c15, c16, hsl.keep (Keep.cons rfl (Keep.cons rfl (Keep.nil))), st.imp (To.sat (by repeat (first | exact .nil | exact .done .refl | (apply To.cons; · (repeat (first | exact .head | apply Sel.tail))) | exact .done (by repeat (first | exact .refl | apply Drop.skip)))))⟩
        ·
          refine gt_n rfl .none rfl (o_makeS (k := 3) rfl rfl (by unfold maxLen; omega) (by omega)) ?_
          rintro _ _ ⟨a16, c16, rfl, rfl⟩
          refine ⟨(fun _ => (fun _ _ => trivial)), ?_⟩
          refine gt_n rfl .none rfl (o_makeS (k := 3) rfl rfl (by unfold maxLen; omega) (by omega)) ?_
          rintro _ _ ⟨a15, c15, rfl, rfl⟩
          refine ⟨(fun _ => (fun _ _ => trivial)), ?_⟩
          refine gt_v rfl .none rfl (o_build rfl rfl) ?_
          refine gt_n rfl .none rfl (o_boxA rfl) ?_
          rintro _ _ ⟨b18, rfl, rfl⟩
          refine ⟨(fun hG => absurd hG (by decide)), ?_⟩
          refine gt_v rfl .none rfl (o_assign rfl) ?_
          refine gt_nil ?_
          exact fun act wo hsl st => ⟨b18, r, m, t, a14, a15, a16, c14, c15, c16, hsl.keep (Keep.cons rfl (Keep.cons rfl (Keep.nil))), st.imp (To.sat (by repeat (first | exact .nil | exact .done .refl | (apply To.cons; · (repeat (first | exact .head | apply Sel.tail))) | exact .done (by repeat (first | exact .refl | apply Drop.skip)))))⟩
      ·
        refine gt_alts ?_ ?_
        ·
          refine gt_n rfl .none rfl (o_makeS (k := 3) rfl rfl (by unfold maxLen; omega) (by omega)) ?_
          rintro _ _ ⟨a15, c15, rfl, rfl⟩
          refine ⟨(fun _ => (fun _ _ => trivial)), ?_⟩
          refine gt_alts ?_ ?_
          ·
            refine gt_n rfl .none rfl (o_makeS (k := 3) rfl rfl (by unfold maxLen; omega) (by omega)) ?_
            rintro _ _ ⟨a14, c14, rfl, rfl⟩
            refine ⟨(fun _ => (fun _ _ => trivial)), ?_⟩
            refine gt_n rfl .none rfl (o_makeS (k := 3) rfl rfl (by unfold maxLen; omega) (by omega)) ?_
            rintro _ _ ⟨a16, c16, rfl, rfl⟩
            refine ⟨(fun _ => (fun _ _ => trivial)), ?_⟩
            refine gt_v rfl .none rfl (o_build rfl rfl) ?_
            refine gt_n rfl .none rfl (o_boxA rfl) ?_
            rintro _ _ ⟨b18, rfl, rfl⟩
            refine ⟨(fun hG => absurd hG (by decide)), ?_⟩
            refine gt_v rfl .none rfl (o_assign rfl) ?_
            refine gt_nil ?_
            exact fun act wo hsl st => ⟨b18, r, m, t, a14, a15, a16, c14, c15, c16, hsl.keep (Keep.cons rfl (Keep.cons rfl (Keep.nil))), st.imp (To.sat (by repeat (first | exact .nil | exact .done .refl | (apply To.cons; · (repeat (first | exact .head | apply Sel.tail))) | exact .done (by repeat (first | exact .refl | apply Drop.skip)))))⟩
          ·
            refine gt_n rfl .none rfl (o_makeS (k := 3) rfl rfl (by unfold maxLen; omega) (by omega)) ?_
            rintro _ _ ⟨a16, c16, rfl, rfl⟩
            refine ⟨(fun _ => (fun _ _ => trivial)), ?_⟩
            refine gt_n rfl .none rfl (o_makeS (k := 3) rfl rfl (by unfold maxLen; omega) (by omega)) ?_
            rintro _ _ ⟨a14, c14, rfl, rfl⟩
            refine ⟨(fun _ => (fun _ _ => trivial)), ?_⟩
            refine gt_v rfl .none rfl (o_build rfl rfl) ?_
            refine gt_n rfl .none rfl (o_boxA rfl) ?_
            rintro _ _ ⟨b18, rfl, rfl⟩
            refine ⟨(fun hG => absurd hG (by decide)), ?_⟩
            refine gt_v rfl .none rfl (o_assign rfl) ?_
            refine gt_nil ?_
            exact fun act wo hsl st => ⟨b18, r, m, t, a14, a15, a16, c14, c15, c16, hsl.keep (Keep.cons rfl (Keep.cons rfl (Keep.nil))), st.imp (To.sat (by repeat (first | exact .nil | exact .done .refl | (apply To.cons; · (repeat (first | exact .head | apply Sel.tail))) | exact .done (by repeat (first | exact .refl | apply Drop.skip)))))⟩
        ·
          refine gt_n rfl .none rfl (o_makeS (k := 3) rfl rfl (by unfold maxLen; omega) (by omega)) ?_
          rintro _ _ ⟨a16, c16, rfl, rfl⟩
          refine ⟨(fun _ => (fun _ _ => trivial)), ?_⟩
          refine gt_alts ?_ ?_
          ·
            refine gt_n rfl .none rfl (o_makeS (k := 3) rfl rfl (by unfold maxLen; omega) (by omega)) ?_
            rintro _ _ ⟨a14, c14, rfl, rfl⟩
            refine ⟨(fun _ => (fun _ _ => trivial)), ?_⟩
            refine gt_n rfl .none rfl (o_makeS (k := 3) rfl rfl (by unfold maxLen; omega) (by omega)) ?_
            rintro _ _ ⟨a15, c15, rfl, rfl⟩
            refine ⟨(fun _ => (fun _ _ => trivial)), ?_⟩
            refine gt_v rfl .none rfl (o_build rfl rfl) ?_
            refine gt_n rfl .none rfl (o_boxA rfl) ?_
            rintro _ _ ⟨b18, rfl, rfl⟩
            refine ⟨(fun hG => absurd hG (by decide)), ?_⟩
            refine gt_v rfl .none rfl (o_assign rfl) ?_
            refine gt_nil ?_
            exact fun act wo hsl st => ⟨b18, r, m, t, a14, a15, a16, c14, c15, c16, hsl.keep (Keep.cons rfl (Keep.cons rfl (Keep.nil))), st.imp (To.sat (by repeat (first | exact .nil | exact .done .refl | (apply To.cons; · (repeat (first | exact .head | apply Sel.tail))) | exact .done (by repeat (first | exact .refl | apply Drop.skip)))))⟩
          ·
            refine gt_n rfl .none rfl (o_makeS (k := 3) rfl rfl (by unfold maxLen; omega) (by omega)) ?_
            rintro _ _ ⟨a15, c15, rfl, rfl⟩
            refine ⟨(fun _ => (fun _ _ => trivial)), ?_⟩
            refine gt_n rfl .none rfl (o_makeS (k := 3) rfl rfl (by unfold maxLen; omega) (by omega)) ?_
            rintro _ _ ⟨a14, c14, rfl, rfl⟩
            refine ⟨(fun _ => (fun _ _ => trivial)), ?_⟩
            refine gt_v rfl .none rfl (o_build rfl rfl) ?_
            refine gt_n rfl .none rfl (o_boxA rfl) ?_
            rintro _ _ ⟨b18, rfl, rfl⟩
            refine ⟨(fun hG => absurd hG (by decide)), ?_⟩
            refine gt_v rfl .none rfl (o_assign rfl) ?_
            refine gt_nil ?_
            exact fun act wo hsl st => ⟨b18, r, m, t, a14, a15, a16, c14, c15, c16, hsl.keep (Keep.cons rfl (Keep.cons rfl (Keep.nil))), st.imp (To.sat (by repeat (first | exact .nil | exact .done .refl | (apply To.cons; · (repeat (first | exact .head | apply Sel.tail))) | exact .done (by repeat (first | exact .refl | apply Drop.skip)))))⟩
    ·
      refine gt_alts ?_ ?_
      ·
        refine gt_n rfl .none rfl (o_makeS (k := 3) rfl rfl (by unfold maxLen; omega) (by omega)) ?_
        rintro _ _ ⟨a14, c14, rfl, rfl⟩
        refine ⟨(fun _ => (fun _ _ => trivial)), ?_⟩
        refine gt_alts ?_ ?_
        ·
          refine gt_c rfl .none rfl (o_call rfl (made_spec n h1 h7) (by repeat (first | exact .nil | (apply Part.cons; · (repeat (first | exact .head | apply Sel.tail)))))) ?_
          rintro _ R ⟨_, ⟨r, m, t, rfl, rfl⟩, rfl⟩
          try simp only [List.cons_append, List.nil_append]
          refine ⟨(fun hG => absurd hG (by decide)), ?_⟩
          refine gt_alts ?_ ?_
          ·
            refine gt_n rfl .none rfl (o_makeS (k := 3) rfl rfl (by unfold maxLen; omega) (by omega)) ?_
            rintro _ _ ⟨a15, c15, rfl, rfl⟩
            refine ⟨(fun _ => (fun _ _ => trivial)), ?_⟩
            refine gt_n rfl .none rfl (o_makeS (k := 3) rfl rfl (by unfold maxLen; omega) (by omega)) ?_
            rintro _ _ ⟨a16, c16, rfl, rfl⟩
            refine ⟨(fun _ => (fun _ _ => trivial)), ?_⟩
            refine gt_v rfl .none rfl (o_build rfl rfl) ?_
            refine gt_n rfl .none rfl (o_boxA rfl) ?_
            rintro _ _ ⟨b18, rfl, rfl⟩
            refine ⟨(fun hG => absurd hG (by decide)), ?_⟩
            refine gt_v rfl .none rfl (o_assign rfl) ?_
            refine gt_nil ?_
            exact fun act wo hsl st => ⟨b18, r, m, t, a14, a15, a16, c14, c15, c16, hsl.keep (Keep.cons rfl (Keep.cons rfl (Keep.nil))), st.imp (To.sat (by repeat (first | exact .nil | exact .done .refl | (apply To.cons; · (repeat (first | exact .head | apply Sel.tail))) | exact .done (by repeat (first | exact .refl | apply Drop.skip)))))⟩
          ·
            refine gt_n rfl .none rfl (o_makeS (k := 3) rfl rfl (by unfold maxLen; omega) (by omega)) ?_
            rintro _ _ ⟨a16, c16, rfl, rfl⟩
            refine ⟨(fun _ => (fun _ _ => trivial)), ?_⟩
            refine gt_n rfl .none rfl (o_makeS (k := 3) rfl rfl (by unfold maxLen; omega) (by omega)) ?_
            rintro _ _ ⟨a15, c15, rfl, rfl⟩
            refine ⟨(fun _ => (fun _ _ => trivial)), ?_⟩
            refine gt_v rfl .none rfl (o_build rfl rfl) ?_
            refine gt_n rfl .none rfl (o_boxA rfl) ?_
            rintro _ _ ⟨b18, rfl, rfl⟩
            refine ⟨(fun hG => absurd hG (by decide)), ?_⟩
            refine gt_v rfl .none rfl (o_assign rfl) ?_
            refine gt_nil ?_
            exact fun act wo hsl st => ⟨b18, r, m, t, a14, a15, a16, c14, c15, c16, hsl.keep (Keep.cons rfl (Keep.cons rfl (Keep.nil))), st.imp (To.sat (by repeat (first | exact .nil | exact .done .refl | (apply To.cons; · (repeat (first | exact .head | apply Sel.tail))) | exact .done (by repeat (first | exact .refl | apply Drop.skip)))))⟩
        ·
          refine gt_alts ?_ ?_
          ·
            refine gt_n rfl .none rfl (o_makeS (k := 3) rfl rfl (by unfold maxLen; omega) (by omega)) ?_
            rintro _ _ ⟨a15, c15, rfl, rfl⟩
            refine ⟨(fun _ => (fun _ _ => trivial)), ?_⟩
            refine gt_alts ?_ ?_
            ·
              refine gt_c rfl .none rfl (o_call rfl (made_spec n h1 h7) (by repeat (first | exact .nil | (apply Part.cons; · (repeat (first | exact .head | apply Sel.tail)))))) ?_
              rintro _ R ⟨_, ⟨r, m, t, rfl, rfl⟩, rfl⟩
              try simp only [List.cons_append, List.nil_append]
              refine ⟨(fun hG => absurd hG (by decide)), ?_⟩
              refine gt_n rfl .none rfl (o_makeS (k := 3) rfl rfl (by unfold maxLen; omega) (by omega)) ?_
              rintro _ _ ⟨a16, c16, rfl, rfl⟩
              refine ⟨(fun _ => (fun _ _ => trivial)), ?_⟩
              refine gt_v rfl .none rfl (o_build rfl rfl) ?_
              refine gt_n rfl .none rfl (o_boxA rfl) ?_
              rintro _ _ ⟨b18, rfl, rfl⟩
              refine ⟨(fun hG => absurd hG (by decide)), ?_⟩
              refine gt_v rfl .none rfl (o_assign rfl) ?_
              refine gt_nil ?_
              exact fun act wo hsl st => ⟨b18, r, m, t, a14, a15, a16, c14, c15, c16, hsl.keep (Keep.cons rfl (Keep.cons rfl (Keep.nil))), st.imp (To.sat (by repeat (first | exact .nil | exact .done .refl | (apply To.cons; · (repeat (first | exact .head | apply Sel.tail))) | exact .done (by repeat (first | exact .refl | apply Drop.skip)))))⟩
            ·
              refine gt_n rfl .none rfl (o_makeS (k := 3) rfl rfl (by unfold maxLen; omega) (by omega)) ?_
              rintro _ _ ⟨a16, c16, rfl, rfl⟩
              refine ⟨(fun _ => (fun _ _ => trivial)), ?_⟩
              refine gt_c rfl .none rfl (o_call rfl (made_spec n h1 h7) (by repeat (first | exact .nil | (apply Part.cons; · (repeat (first | exact .head | apply Sel.tail)))))) ?_
              rintro _ R ⟨_, ⟨r, m, t, rfl, rfl⟩, rfl⟩
              try simp only [List.cons_append, List.nil_append]
              refine ⟨(fun hG => absurd hG (by decide)), ?_⟩
              refine gt_v rfl .none rfl (o_build rfl rfl) ?_
              refine gt_n rfl .none rfl (o_boxA rfl) ?_
              rintro _ _ ⟨b18, rfl, rfl⟩
              refine ⟨(fun hG => absurd hG (by decide)), ?_⟩
              refine gt_v rfl .none rfl (o_assign rfl) ?_
              refine gt_nil ?_
              exact fun act wo hsl st => ⟨b18, r, m, t, a14, a15, a16, c14, c15, c16, hsl.keep (Keep.cons rfl (Keep.cons rfl (Keep.nil))), st.imp (To.sat (by repeat (first | exact .nil | exact .done .refl | (apply To.cons; · (repeat (first | exact .head | apply Sel.tail))) | exact .done (by repeat (first | exact .refl | apply Drop.skip)))))⟩
          ·
            refine gt_n rfl .none rfl (o_makeS (k := 3) rfl rfl (by unfold maxLen; omega) (by omega)) ?_
            rintro _ _ ⟨a16, c16, rfl, rfl⟩
            refine ⟨(fun _ => (fun _ _ => trivial)), ?_⟩
            refine gt_alts ?_ ?_
            ·
              refine gt_c rfl .none rfl (o_call rfl (made_spec n h1 h7) (by repeat (first | exact .nil | (apply Part.cons; · (repeat (first | exact .head | apply Sel.tail)))))) ?_
              rintro _ R ⟨_, ⟨r, m, t, rfl, rfl⟩, rfl⟩
              try simp only [List.cons_append, List.nil_append]
              refine ⟨(fun hG => absurd hG (by decide)), ?_⟩
              refine gt_n rfl .none rfl (o_makeS (k := 3) rfl rfl (by unfold maxLen; omega) (by omega)) ?_
              rintro _ _ ⟨a15, c15, rfl, rfl⟩
              refine ⟨(fun _ => (fun _ _ => trivial)), ?_⟩
              refine gt_v rfl .none rfl (o_build rfl rfl) ?_
              refine gt_n rfl .none rfl (o_boxA rfl) ?_
              rintro _ _ ⟨b18, rfl, rfl⟩
              refine ⟨(fun hG => absurd hG (by decide)), ?_⟩
              refine gt_v rfl .none rfl (o_assign rfl) ?_
              refine gt_nil ?_
              exact fun act wo hsl st => ⟨b18, r, m, t, a14, a15, a16, c14, c15, c16, hsl.keep (Keep.cons rfl (Keep.cons rfl (Keep.nil))), st.imp (To.sat (by repeat (first | exact .nil | exact .done .refl | (apply To.cons; · (repeat (first | exact .head | apply Sel.tail))) | exact .done (by repeat (first | exact .refl | apply Drop.skip)))))⟩
            ·
              refine gt_n rfl .none rfl (o_makeS (k := 3) rfl rfl (by unfold maxLen; omega) (by omega)) ?_
              rintro _ _ ⟨a15, c15, rfl, rfl⟩
              refine ⟨(fun _ => (fun _ _ => trivial)), ?_⟩
              refine gt_c rfl .none rfl (o_call rfl (made_spec n h1 h7) (by repeat (first | exact .nil | (apply Part.cons; · (repeat (first | exact .head | apply Sel.tail)))))) ?_
              rintro _ R ⟨_, ⟨r, m, t, rfl, rfl⟩, rfl⟩
              try simp only [List.cons_append, List.nil_append]
              refine ⟨(fun hG => absurd hG (by decide)), ?_⟩
              refine gt_v rfl .none rfl (o_build rfl rfl) ?_
              refine gt_n rfl .none rfl (o_boxA rfl) ?_
              rintro _ _ ⟨b18, rfl, rfl⟩
              refine ⟨(fun hG => absurd hG (by decide)), ?_⟩
              refine gt_v rfl .none rfl (o_assign rfl) ?_
              refine gt_nil ?_
              exact fun act wo hsl st => ⟨b18, r, m, t, a14, a15, a16, c14, c15, c16, hsl.keep (Keep.cons rfl (Keep.cons rfl (Keep.nil))), st.imp (To.sat (by repeat (first | exact .nil | exact .done .refl | (apply To.cons; · (repeat (first | exact .head | apply Sel.tail))) | exact .done (by repeat (first | exact .refl | apply Drop.skip)))))⟩
      ·
        refine gt_alts ?_ ?_
        ·
          refine gt_n rfl .none rfl (o_makeS (k := 3) rfl rfl (by unfold maxLen; omega) (by omega)) ?_
          rintro _ _ ⟨a15, c15, rfl, rfl⟩
          refine ⟨(fun _ => (fun _ _ => trivial)), ?_⟩
          refine gt_alts ?_ ?_
          ·
            refine gt_c rfl .none rfl (o_call rfl (made_spec n h1 h7) (by repeat (first | exact .nil | (apply Part.cons; · (repeat (first | exact .head | apply Sel.tail)))))) ?_
            rintro _ R ⟨_, ⟨r, m, t, rfl, rfl⟩, rfl⟩
            try simp only [List.cons_append, List.nil_append]
            refine ⟨(fun hG => absurd hG (by decide)), ?_⟩
            refine gt_alts ?_ ?_
            ·
              refine gt_n rfl .none rfl (o_makeS (k := 3) rfl rfl (by unfold maxLen; omega) (by omega)) ?_
              rintro _ _ ⟨a14, c14, rfl, rfl⟩
              refine ⟨(fun _ => (fun _ _ => trivial)), ?_⟩
              refine gt_n rfl .none rfl (o_makeS (k := 3) rfl rfl (by unfold maxLen; omega) (by omega)) ?_
              rintro _ _ ⟨a16, c16, rfl, rfl⟩
              refine ⟨(fun _ => (fun _ _ => trivial)), ?_⟩
              refine gt_v rfl .none rfl (o_build rfl rfl) ?_
              refine gt_n rfl .none rfl (o_boxA rfl) ?_
              rintro _ _ ⟨b18, rfl, rfl⟩
              refine ⟨(fun hG => absurd hG (by decide)), ?_⟩
              refine gt_v rfl .none rfl (o_assign rfl) ?_
              refine gt_nil ?_
              exact fun act wo hsl st => ⟨b18, r, m, t, a14, a15, a16, c14, c15, c16, hsl.keep (Keep.cons rfl (Keep.cons rfl (Keep.nil))), st.imp (To.sat (by repeat (first | exact .nil | exact .done .refl | (apply To.cons; · (repeat (first | exact .head | apply Sel.tail))) | exact .done (by repeat (first | exact .refl | apply Drop.skip)))))⟩
            ·
              refine gt_n rfl .none rfl (o_makeS (k := 3) rfl rfl (by unfold maxLen; omega) (by omega)) ?_
              rintro _ _ ⟨a16, c16, rfl, rfl⟩
              refine ⟨(fun _ => (fun _ _ => trivial)), ?_⟩
              refine gt_n rfl .none rfl (o_makeS (k := 3) rfl rfl (by unfold maxLen; omega) (by omega)) ?_
              rintro _ _ ⟨a14, c14, rfl, rfl⟩
              refine ⟨(fun _ => (fun _ _ => trivial)), ?_⟩
              refine gt_v rfl .none rfl (o_build rfl rfl) ?_
              refine gt_n rfl .none rfl (o_boxA rfl) ?_
              rintro _ _ ⟨b18, rfl, rfl⟩
              refine ⟨(fun hG => absurd hG (by decide)), ?_⟩
              refine gt_v rfl .none rfl (o_assign rfl) ?_
              refine gt_nil ?_
              exact fun act wo hsl st => ⟨b18, r, m, t, a14, a15, a16, c14, c15, c16, hsl.keep (Keep.cons rfl (Keep.cons rfl (Keep.nil))), st.imp (To.sat (by repeat (first | exact .nil | exact .done .refl | (apply To.cons; · (repeat (first | exact .head | apply Sel.tail))) | exact .done (by repeat (first | exact .refl | apply Drop.skip)))))⟩
          ·
            refine gt_alts ?_ ?_
            ·
              refine gt_n rfl .none rfl (o_makeS (k := 3) rfl rfl (by unfold maxLen; omega) (by omega)) ?_
              rintro _ _ ⟨a14, c14, rfl, rfl⟩
              refine ⟨(fun _ => (fun _ _ => trivial)), ?_⟩
              refine gt_alts ?_ ?_
              ·
                refine gt_c rfl .none rfl (o_call rfl (made_spec n h1 h7) (by repeat (first | exact .nil | (apply Part.cons; · (repeat (first | exact .head | apply Sel.tail)))))) ?_
                rintro _ R ⟨_, ⟨r, m, t, rfl, rfl⟩, rfl⟩
                try simp only [List.cons_append, List.nil_append]
                refine ⟨(fun hG => absurd hG (by decide)), ?_⟩
                refine gt_n rfl .none rfl (o_makeS (k := 3) rfl rfl (by unfold maxLen; omega) (by omega)) ?_
                rintro _ _ ⟨a16, c16, rfl, rfl⟩
                refine ⟨(fun _ => (fun _ _ => trivial)), ?_⟩
                refine gt_v rfl .none rfl (o_build rfl rfl) ?_
                refine gt_n rfl .none rfl (o_boxA rfl) ?_
                rintro _ _ ⟨b18, rfl, rfl⟩
                refine ⟨(fun hG => absurd hG (by decide)), ?_⟩
                refine gt_v rfl .none rfl (o_assign rfl) ?_
                refine gt_nil ?_
                exact fun act wo hsl st => ⟨b18, r, m, t, a14, a15, a16, c14, c15, c16, hsl.keep (Keep.cons rfl (Keep.cons rfl (Keep.nil))), st.imp (To.sat (by repeat (first | exact .nil | exact .done .refl | (apply To.cons; · (repeat (first | exact .head | apply Sel.tail))) | exact .done (by repeat (first | exact .refl | apply Drop.skip)))))⟩
              ·
                refine gt_n rfl .none rfl (o_makeS (k := 3) rfl rfl (by unfold maxLen; omega) (by omega)) ?_
                rintro _ _ ⟨a16, c16, rfl, rfl⟩
                refine ⟨(fun _ => (fun _ _ => trivial)), ?_⟩
                refine gt_c rfl .none rfl (o_call rfl (made_spec n h1 h7) (by repeat (first | exact .nil | (apply Part.cons; · (repeat (first | exact .head | apply Sel.tail)))))) ?_
                rintro _ R ⟨_, ⟨r, m, t, rfl, rfl⟩, rfl⟩
                try simp only [List.cons_append, List.nil_append]
                refine ⟨(fun hG => absurd hG (by decide)), ?_⟩
                refine gt_v rfl .none rfl (o_build rfl rfl) ?_
                refine gt_n rfl .none rfl (o_boxA rfl) ?_
                rintro _ _ ⟨b18, rfl, rfl⟩
                refine ⟨(fun hG => absurd hG (by decide)), ?_⟩
                refine gt_v rfl .none rfl (o_assign rfl) ?_
                refine gt_nil ?_
                exact fun act wo hsl st => ⟨b18, r, m, t, a14, a15, a16, c14, c15, c16, hsl.keep (Keep.cons rfl (Keep.cons rfl (Keep.nil))), st.imp (To.sat (by repeat (first | exact .nil | exact .done .refl | (apply To.cons; · (repeat (first | exact .head | apply Sel.tail))) | exact .done (by repeat (first | exact .refl | apply Drop.skip)))))⟩
            ·
              refine gt_n rfl .none rfl (o_makeS (k := 3) rfl rfl (by unfold maxLen; omega) (by omega)) ?_
              rintro _ _ ⟨a16, c16, rfl, rfl⟩
              refine ⟨(fun _ => (fun _ _ => trivial)), ?_⟩
              refine gt_alts ?_ ?_
              ·
                refine gt_c rfl .none rfl (o_call rfl (made_spec n h1 h7) (by repeat (first | exact .nil | (apply Part.cons; · (repeat (first | exact .head | apply Sel.tail)))))) ?_
                rintro _ R ⟨_, ⟨r, m, t, rfl, rfl⟩, rfl⟩
                try simp only [List.cons_append, List.nil_append]
                refine ⟨(fun hG => absurd hG (by decide)), ?_⟩
                refine gt_n rfl .none rfl (o_makeS (k := 3) rfl rfl (by unfold maxLen; omega) (by omega)) ?_
                rintro _ _ ⟨a14, c14, rfl, rfl⟩
                refine ⟨(fun _ => (fun _ _ => trivial)), ?_⟩
                refine gt_v rfl .none rfl (o_build rfl rfl) ?_
                refine gt_n rfl .none rfl (o_boxA rfl) ?_
                rintro _ _ ⟨b18, rfl, rfl⟩
                refine ⟨(fun hG => absurd hG (by decide)), ?_⟩
                refine gt_v rfl .none rfl (o_assign rfl) ?_
                refine gt_nil ?_
                exact fun act wo hsl st => ⟨b18, r, m, t, a14, a15, a16, c14, c15, c16, hsl.keep (Keep.cons rfl (Keep.cons rfl (Keep.nil))), st.imp (To.sat (by repeat (first | exact .nil | exact .done .refl | (apply To.cons; · (repeat (first | exact .head | apply Sel.tail))) | exact .done (by repeat (first | exact .refl | apply Drop.skip)))))⟩
              ·
                refine gt_n rfl .none rfl (o_makeS (k := 3) rfl rfl (by unfold maxLen; omega) (by omega)) ?_
                rintro _ _ ⟨a14, c14, rfl, rfl⟩
                refine ⟨(fun _ => (fun _ _ => trivial)), ?_⟩
                refine gt_c rfl .none rfl (o_call rfl (made_spec n h1 h7) (by repeat (first | exact .nil | (apply Part.cons; · (repeat (first | exact .head | apply Sel.tail)))))) ?_
                rintro _ R ⟨_, ⟨r, m, t, rfl, rfl⟩, rfl⟩
                try simp only [List.cons_append, List.nil_append]
                refine ⟨(fun hG => absurd hG (by decide)), ?_⟩
                refine gt_v rfl .none rfl (o_build rfl rfl) ?_
                refine gt_n rfl .none rfl (o_boxA rfl) ?_
                rintro _ _ ⟨b18, rfl, rfl⟩
                refine ⟨(fun hG => absurd hG (by decide)), ?_⟩
                refine gt_v rfl .none rfl (o_assign rfl) ?_
                refine gt_nil ?_
                exact fun act wo hsl st => ⟨b18, r, m, t, a14, a15, a16, c14, c15, c16, hsl.keep (Keep.cons rfl (Keep.cons rfl (Keep.nil))), st.imp (To.sat (by repeat (first | exact .nil | exact .done .refl | (apply To.cons; · (repeat (first | exact .head | apply Sel.tail))) | exact .done (by repeat (first | exact .refl | apply Drop.skip)))))⟩
        ·
          refine gt_n rfl .none rfl (o_makeS (k := 3) rfl rfl (by unfold maxLen; omega) (by omega)) ?_
          rintro _ _ ⟨a16, c16, rfl, rfl⟩
          refine ⟨(fun _ => (fun _ _ => trivial)), ?_⟩
          refine gt_alts ?_ ?_
          ·
            refine gt_c rfl .none rfl (o_call rfl (made_spec n h1 h7) (by repeat (first | exact .nil | (apply Part.cons; · (repeat (first | exact .head | apply Sel.tail)))))) ?_
            rintro _ R ⟨_, ⟨r, m, t, rfl, rfl⟩, rfl⟩
            try simp only [List.cons_append, List.nil_append]
            refine ⟨(fun hG => absurd hG (by decide)), ?_⟩
            refine gt_alts ?_ ?_
            ·
              refine gt_n rfl .none rfl (o_makeS (k := 3) rfl rfl (by unfold maxLen; omega) (by omega)) ?_
              rintro _ _ ⟨a14, c14, rfl, rfl⟩
              refine ⟨(fun _ => (fun _ _ => trivial)), ?_⟩
              refine gt_n rfl .none rfl (o_makeS (k := 3) rfl rfl (by unfold maxLen; omega) (by omega)) ?_
              rintro _ _ ⟨a15, c15, rfl, rfl⟩
              refine ⟨(fun _ => (fun _ _ => trivial)), ?_⟩
              refine gt_v rfl .none rfl (o_build rfl rfl) ?_
              refine gt_n rfl .none rfl (o_boxA rfl) ?_
              rintro _ _ ⟨b18, rfl, rfl⟩
              refine ⟨(fun hG => absurd hG (by decide)), ?_⟩
              refine gt_v rfl .none rfl (o_assign rfl) ?_
              refine gt_nil ?_
              exact fun act wo hsl st => ⟨b18, r, m, t, a14, a15, a16, c14, c15, c16, hsl.keep (Keep.cons rfl (Keep.cons rfl (Keep.nil))), st.imp (To.sat (by repeat (first | exact .nil | exact .done .refl | (apply To.cons; · (repeat (first | exact .head | apply Sel.tail))) | exact .done (by repeat (first | exact .refl | apply Drop.skip)))))⟩
            ·
              refine gt_n rfl .none rfl (o_makeS (k := 3) rfl rfl (by unfold maxLen; omega) (by omega)) ?_
              rintro _ _ ⟨a15, c15, rfl, rfl⟩
              refine ⟨(fun _ => (fun _ _ => trivial)), ?_⟩
              refine gt_n rfl .none rfl (o_makeS (k := 3) rfl rfl (by unfold maxLen; omega) (by omega)) ?_
              rintro _ _ ⟨a14, c14, rfl, rfl⟩
              refine ⟨(fun _ => (fun _ _ => trivial)), ?_⟩
              refine gt_v rfl .none rfl (o_build rfl rfl) ?_
              refine gt_n rfl .none rfl (o_boxA rfl) ?_
              rintro _ _ ⟨b18, rfl, rfl⟩
              refine ⟨(fun hG => absurd hG (by decide)), ?_⟩
              refine gt_v rfl .none rfl (o_assign rfl) ?_
              refine gt_nil ?_
              exact fun act wo hsl st => ⟨b18, r, m, t, a14, a15, a16, c14, c15, c16, hsl.keep (Keep.cons rfl (Keep.cons rfl (Keep.nil))), st.imp (To.sat (by repeat (first | exact .nil | exact .done .refl | (apply To.cons; · (repeat (first | exact .head | apply Sel.tail))) | exact .done (by repeat (first | exact .refl | apply Drop.skip)))))⟩
          ·
            refine gt_alts ?_ ?_
            ·
              refine gt_n rfl .none rfl (o_makeS (k := 3) rfl rfl (by unfold maxLen; omega) (by omega)) ?_
              rintro _ _ ⟨a14, c14, rfl, rfl⟩
              refine ⟨(fun _ => (fun _ _ => trivial)), ?_⟩
              refine gt_alts ?_ ?_
              ·
                refine gt_c rfl .none rfl (o_call rfl (made_spec n h1 h7) (by repeat (first | exact .nil | (apply Part.cons; · (repeat (first | exact .head | apply Sel.tail)))))) ?_
                rintro _ R ⟨_, ⟨r, m, t, rfl, rfl⟩, rfl⟩
                try simp only [List.cons_append, List.nil_append]
                refine ⟨(fun hG => absurd hG (by decide)), ?_⟩
                refine gt_n rfl .none rfl (o_makeS (k := 3) rfl rfl (by unfold maxLen; omega) (by omega)) ?_
                rintro _ _ ⟨a15, c15, rfl, rfl⟩
                refine ⟨(fun _ => (fun _ _ => trivial)), ?_⟩
                refine gt_v rfl .none rfl (o_build rfl rfl) ?_
                refine gt_n rfl .none rfl (o_boxA rfl) ?_
                rintro _ _ ⟨b18, rfl, rfl⟩
                refine ⟨(fun hG => absurd hG (by decide)), ?_⟩
                refine gt_v rfl .none rfl (o_assign rfl) ?_
                refine gt_nil ?_
                exact fun act wo hsl st => ⟨b18, r, m, t, a14, a15, a16, c14, c15, c16, hsl.keep (Keep.cons rfl (Keep.cons rfl (Keep.nil))), st.imp (To.sat (by repeat (first | exact .nil | exact .done .refl | (apply To.cons; · (repeat (first | exact .head | apply Sel.tail))) | exact .done (by repeat (first | exact .refl | apply Drop.skip)))))⟩
              ·
                refine gt_n rfl .none rfl (o_makeS (k := 3) rfl rfl (by unfold maxLen; omega) (by omega)) ?_
                rintro _ _ ⟨a15, c15, rfl, rfl⟩
                refine ⟨(fun _ => (fun _ _ => trivial)), ?_⟩
                refine gt_c rfl .none rfl (o_call rfl (made_spec n h1 h7) (by repeat (first | exact .nil | (apply Part.cons; · (repeat (first | exact .head | apply Sel.tail)))))) ?_
                rintro _ R ⟨_, ⟨r, m, t, rfl, rfl⟩, rfl⟩
                try simp only [List.cons_append, List.nil_append]
                refine ⟨(fun hG => absurd hG (by decide)), ?_⟩
                refine gt_v rfl .none rfl (o_build rfl rfl) ?_
                refine gt_n rfl .none rfl (o_boxA rfl) ?_
                rintro _ _ ⟨b18, rfl, rfl⟩
                refine ⟨(fun hG => absurd hG (by decide)), ?_⟩
                refine gt_v rfl .none rfl (o_assign rfl) ?_
                refine gt_nil ?_
                exact fun act wo hsl st => ⟨b18, r, m, t, a14, a15, a16, c14, c15, c16, hsl.keep (Keep.cons rfl (Keep.cons rfl (Keep.nil))), st.imp (To.sat (by repeat (first | exact .nil | exact .done .refl | (apply To.cons; · (repeat (first | exact .head | apply Sel.tail))) | exact .done (by repeat (first | exact .refl | apply Drop.skip)))))⟩
            ·
              refine gt_n rfl .none rfl (o_makeS (k := 3) rfl rfl (by unfold maxLen; omega) (by omega)) ?_
              rintro _ _ ⟨a15, c15, rfl, rfl⟩
              refine ⟨(fun _ => (fun _ _ => trivial)), ?_⟩
              refine gt_alts ?_ ?_
              ·
                refine gt_c rfl .none rfl (o_call rfl (made_spec n h1 h7) (by repeat (first | exact .nil | (apply Part.cons; · (repeat (first | exact .head | apply Sel.tail)))))) ?_
                rintro _ R ⟨_, ⟨r, m, t, rfl, rfl⟩, rfl⟩
                try simp only [List.cons_append, List.nil_append]
                refine ⟨(fun hG => absurd hG (by decide)), ?_⟩
                refine gt_n rfl .none rfl (o_makeS (k := 3) rfl rfl (by unfold maxLen; omega) (by omega)) ?_
                rintro _ _ ⟨a14, c14, rfl, rfl⟩
                refine ⟨(fun _ => (fun _ _ => trivial)), ?_⟩
                refine gt_v rfl .none rfl (o_build rfl rfl) ?_
                refine gt_n rfl .none rfl (o_boxA rfl) ?_
                rintro _ _ ⟨b18, rfl, rfl⟩
                refine ⟨(fun hG => absurd hG (by decide)), ?_⟩
                refine gt_v rfl .none rfl (o_assign rfl) ?_
                refine gt_nil ?_
                exact fun act wo hsl st => ⟨b18, r, m, t, a14, a15, a16, c14, c15, c16, hsl.keep (Keep.cons rfl (Keep.cons rfl (Keep.nil))), st.imp (To.sat (by repeat (first | exact .nil | exact .done .refl | (apply To.cons; · (repeat (first | exact .head | apply Sel.tail))) | exact .done (by repeat (first | exact .refl | apply Drop.skip)))))⟩
              ·
                refine gt_n rfl .none rfl (o_makeS (k := 3) rfl rfl (by unfold maxLen; omega) (by omega)) ?_
                rintro _ _ ⟨a14, c14, rfl, rfl⟩
                refine ⟨(fun _ => (fun _ _ => trivial)), ?_⟩
                refine gt_c rfl .none rfl (o_call rfl (made_spec n h1 h7) (by repeat (first | exact .nil | (apply Part.cons; · (repeat (first | exact .head | apply Sel.tail)))))) ?_
                rintro _ R ⟨_, ⟨r, m, t, rfl, rfl⟩, rfl⟩
                try simp only [List.cons_append, List.nil_append]
                refine ⟨(fun hG => absurd hG (by decide)), ?_⟩
                refine gt_v rfl .none rfl (o_build rfl rfl) ?_
                refine gt_n rfl .none rfl (o_boxA rfl) ?_
                rintro _ _ ⟨b18, rfl, rfl⟩
                refine ⟨(fun hG => absurd hG (by decide)), ?_⟩
                refine gt_v rfl .none rfl (o_assign rfl) ?_
                refine gt_nil ?_
                exact fun act wo hsl st => ⟨b18, r, m, t, a14, a15, a16, c14, c15, c16, hsl.keep (Keep.cons rfl (Keep.cons rfl (Keep.nil))), st.imp (To.sat (by repeat (first | exact .nil | exact .done .refl | (apply To.cons; · (repeat (first | exact .head | apply Sel.tail))) | exact .done (by repeat (first | exact .refl | apply Drop.skip)))))⟩
  ·
    rintro act wo ⟨q, r, m, t, a1, a2, a3, c1, c2, c3, hsl, st⟩
    refine g_of ?_ hsl st
    clear hsl st act wo
    refine g_seq ?_
    refine g_seq ?_
    refine g_region ?_
    refine gl_v rfl (o_move rfl) ?_
    refine gl_v rfl (o_nil rfl) ?_
    first | refine gl_v rfl (o_fldS rfl) ?_ | refine gl_v rfl (o_fld rfl) ?_
    first | refine gl_v rfl (o_load rfl rfl) ?_ | refine gl_v rfl (o_loadS rfl rfl) ?_ | refine gl_v rfl (o_loadC rfl) ?_
    first | refine gl_v rfl (o_eqlPn rfl rfl) ?_ | refine gl_v rfl (o_eqlnn rfl rfl) ?_
    refine gl_nil ?_
    refine ge_then ?_
    refine g_cond_false (rfl) ?_
    refine g_skip ?_
    refine ge_then ?_
    refine g_cut (fun act wo => ∃ (B : Nat) (c : CW) (hs : List Tk) (f h : Nat), CI n B c hs f h ∧ B ≤ 1200 ∧ HasSl Try.f20.ntmps [(5, ptr q 0)] act ∧ St W0 (crowdA q r m n c :: A :: R) wo) ?_ ?_
    ·
      refine g_seq ?_
      refine g_imp crowd_start ?_
      refine g_region ?_
      refine gl_v rfl (o_assign rfl) ?_
      refine gl_nil ?_
      refine ge_then ?_
      refine g_block ?_
      refine g_loop (ι := Nat × CW × List Tk × Nat × Nat) (fun x => CI n (2 * x.1) x.2.1 x.2.2.1 x.2.2.2.1 x.2.2.2.2 ∧ x.1 ≤ 600 ∧ x.1 ≤ vs.length) (fun x => [(6, I64 x.1), (5, ptr q 0), (1, .slice a vs.length c)]) (fun x => crowdA q r m n x.2.1 :: A :: R) (fun x => 600 - x.1) (0, c0 n, [], 0, 0) (⟨CI.start h1 h8, Nat.zero_le _, Nat.zero_le _⟩) (Keep.cons rfl (Keep.cons rfl (Keep.cons rfl (Keep.nil)))) (To.sat (by repeat (first | exact .nil | exact .done .refl | (apply To.cons; · (repeat (first | exact .head | apply Sel.tail))) | exact .done (by repeat (first | exact .refl | apply Drop.skip))))) ?_
      rintro ⟨i, c, hs, f, h⟩ ⟨hC, hi, hiv⟩
      have hC : CI n (2 * i) c hs f h := hC
      have hi : i ≤ 600 := hi
      have hiv : i ≤ vs.length := hiv
      dsimp only
      refine g_seq ?_
      refine g_seq ?_
      refine g_region ?_
      refine gl_v rfl (o_move rfl) ?_
      refine gl_v rfl (o_move rfl) ?_
      refine gl_v rfl (o_len rfl) ?_
      refine gl_v rfl (o_lss rfl rfl) ?_
      refine gl_v rfl (o_move rfl) ?_
      refine gl_g rfl rfl (fun hc1 => ?_) (fun hc1 => ?_) rfl
      ·
        have hc1' := hc1
        first | replace hc1' := of_decide_eq_true hc1' | replace hc1' := lt_f hc1' | replace hc1' := le_f hc1' | replace hc1' := dec_f hc1' | replace hc1' := nlt_t hc1' | replace hc1' := nle_t hc1' | replace hc1' := ndec_t hc1' | replace hc1' := ndec_f hc1' | replace hc1' := nn_t hc1' | replace hc1' := nn_f hc1' | skip
        refine gl_v rfl (o_move rfl) ?_
        refine gl_gT rfl rfl hc1 ?_
        refine gl_v rfl (o_lss rfl rfl) ?_
        refine gl_v rfl (o_pickT hc1 rfl rfl) ?_
        refine gl_nil ?_
        refine ge_then ?_
        refine g_cond rfl (fun hc2 => ?_) (fun hc2 => ?_)
        ·
          first | replace hc2 := of_decide_eq_true hc2 | replace hc2 := lt_f hc2 | replace hc2 := le_f hc2 | replace hc2 := dec_f hc2 | replace hc2 := nlt_t hc2 | replace hc2 := nle_t hc2 | replace hc2 := ndec_t hc2 | replace hc2 := ndec_f hc2 | replace hc2 := nn_t hc2 | replace hc2 := nn_f hc2 | skip
          have hc : i < vs.length := by omega
          refine g_skip ?_
          refine ge_then ?_
          refine g_seq ?_
          refine g_block ?_
          refine g_seq ?_
          have hv0 : 0 ≤ vs.getD i 0 ∧ vs.getD i 0 ≤ 255 := by rw [List.getD_eq_getElem?_getD, List.getElem?_eq_getElem hc]; exact hvs _ (List.getElem_mem hc)
          obtain ⟨pk, hpk⟩ : ∃ pk : Nat, (pk : Int) = vs.getD i 0 := ⟨(vs.getD i 0).toNat, by omega⟩
          refine g_region ?_
          refine gl_v rfl (o_move rfl) ?_
          refine gl_v rfl (o_move rfl) ?_
          refine gl_v rfl (o_idxS rfl rfl (by first | assumption | omega)) ?_
          refine gl_v rfl (o_loadS rfl (map_at (d := 0) hc)) ?_
          refine gl_v rfl (o_convR (pk : Int) (by rw [hpk]; exact wr_i64 (by omega)) rfl) ?_
          refine gl_v rfl (o_remR ((pk % 5 : Nat) : Int) (tmodn pk 5) rfl rfl (by decide)) ?_
          refine gl_v rfl (o_assign rfl) ?_
          refine gl_nil ?_
          refine ge_then ?_
          refine g_seq ?_
          refine g_region ?_
          refine gl_v rfl (o_move rfl) ?_
          refine gl_v rfl (o_lss rfl rfl) ?_
          refine gl_nil ?_
          refine ge_then ?_
          refine g_cond rfl (fun hc3 => ?_) (fun hc3 => ?_)
          ·
            first | replace hc3 := of_decide_eq_true hc3 | replace hc3 := lt_f hc3 | replace hc3 := le_f hc3 | replace hc3 := dec_f hc3 | replace hc3 := nlt_t hc3 | replace hc3 := nle_t hc3 | replace hc3 := ndec_t hc3 | replace hc3 := ndec_f hc3 | replace hc3 := nn_t hc3 | replace hc3 := nn_f hc3 | skip
            have hp : pk % 5 < 3 := by omega
            refine g_region ?_
            refine gl_v rfl (o_move rfl) ?_
            refine gl_v rfl (o_move rfl) ?_
            refine gl_c rfl (o_call rfl (put_spec q r m n (pk % 5) (2 * i) c hs f h hC (by omega) hp true) (by repeat (first | exact .nil | (apply Part.cons; · (repeat (first | exact .head | apply Sel.tail)))))) ?_
            rintro _ R ⟨_, ⟨rfl, rfl⟩, rfl⟩
            try simp only [List.cons_append, List.nil_append]
            refine gl_nil ?_
            refine ge_block ?_
            refine ge_then ?_
            refine g_region ?_
            refine gl_v rfl (o_move rfl) ?_
            refine gl_v rfl (o_addR _ (by first | exact wr_i64 (by omega) | rfl) rfl rfl) ?_
            refine gl_v rfl (o_assign rfl) ?_
            refine gl_nil ?_
            obtain ⟨hs', hC', -, -⟩ := hC.putStep (by omega) hp true
            refine ge_round (i + 1, putStep n (pk % 5) true c, hs', f, h) ⟨by show CI n (2 * (i + 1)) _ _ _ _; exact hC', by show i + 1 ≤ 600; omega, by show i + 1 ≤ vs.length; omega⟩ (by show 600 - (i + 1) < 600 - i; omega) (Keep.cons rfl (Keep.cons rfl (Keep.cons rfl (Keep.nil)))) (To.sat (by repeat (first | exact .nil | exact .done .refl | (apply To.cons; · (repeat (first | exact .head | apply Sel.tail))) | exact .done (by repeat (first | exact .refl | apply Drop.skip)))))
          ·
            first | replace hc3 := of_decide_eq_true hc3 | replace hc3 := lt_f hc3 | replace hc3 := le_f hc3 | replace hc3 := dec_f hc3 | replace hc3 := nlt_t hc3 | replace hc3 := nle_t hc3 | replace hc3 := ndec_t hc3 | replace hc3 := ndec_f hc3 | replace hc3 := nn_t hc3 | replace hc3 := nn_f hc3 | skip
            refine g_region ?_
            refine gl_v rfl (o_move rfl) ?_
            refine gl_c rfl (o_call rfl (out_spec q r m n (2 * i) c hs f h hC (by omega)) (by repeat (first | exact .nil | (apply Part.cons; · (repeat (first | exact .head | apply Sel.tail)))))) ?_
            rintro _ R ⟨_, ⟨rfl, rfl⟩, rfl⟩
            try simp only [List.cons_append, List.nil_append]
            refine gl_nil ?_
            refine ge_block ?_
            refine ge_then ?_
            refine g_region ?_
            refine gl_v rfl (o_move rfl) ?_
            refine gl_v rfl (o_addR _ (by first | exact wr_i64 (by omega) | rfl) rfl rfl) ?_
            refine gl_v rfl (o_assign rfl) ?_
            refine gl_nil ?_
            obtain ⟨⟨f', h', hC', -, -⟩, -⟩ := hC.outStep (by omega)
            refine ge_round (i + 1, (outStep n c).1, hs, f', h') ⟨hC'.more (by show 2 * i ≤ 2 * (i + 1); omega), by show i + 1 ≤ 600; omega, by show i + 1 ≤ vs.length; omega⟩ (by show 600 - (i + 1) < 600 - i; omega) (Keep.cons rfl (Keep.cons rfl (Keep.cons rfl (Keep.nil)))) (To.sat (by repeat (first | exact .nil | exact .done .refl | (apply To.cons; · (repeat (first | exact .head | apply Sel.tail))) | exact .done (by repeat (first | exact .refl | apply Drop.skip)))))
        ·
          first | replace hc2 := of_decide_eq_true hc2 | replace hc2 := lt_f hc2 | replace hc2 := le_f hc2 | replace hc2 := dec_f hc2 | replace hc2 := nlt_t hc2 | replace hc2 := nle_t hc2 | replace hc2 := ndec_t hc2 | replace hc2 := ndec_f hc2 | replace hc2 := nn_t hc2 | replace hc2 := nn_f hc2 | skip
          refine g_exit ?_
          refine ge_then_exit ?_
          refine ge_then_exit ?_
          refine ge_block_exit ?_
          exact fun act wo hsl st => ⟨2 * i, c, hs, f, h, hC, by omega, hsl.keep (Keep.cons rfl (Keep.nil)), st.imp (To.sat (by repeat (first | exact .nil | exact .done .refl | (apply To.cons; · (repeat (first | exact .head | apply Sel.tail))) | exact .done (by repeat (first | exact .refl | apply Drop.skip)))))⟩
      ·
        have hc1' := hc1
        first | replace hc1' := of_decide_eq_true hc1' | replace hc1' := lt_f hc1' | replace hc1' := le_f hc1' | replace hc1' := dec_f hc1' | replace hc1' := nlt_t hc1' | replace hc1' := nle_t hc1' | replace hc1' := ndec_t hc1' | replace hc1' := ndec_f hc1' | replace hc1' := nn_t hc1' | replace hc1' := nn_f hc1' | skip
        simp only [putO]
        refine gl_gF rfl rfl hc1 rfl ?_
        refine gl_v rfl (o_pickF hc1 rfl rfl) ?_
        refine gl_nil ?_
        refine ge_then ?_
        refine g_cond_false rfl ?_
        refine g_exit ?_
        refine ge_then_exit ?_
        refine ge_then_exit ?_
        refine ge_block_exit ?_
        exact fun act wo hsl st => ⟨2 * i, c, hs, f, h, hC, by omega, hsl.keep (Keep.cons rfl (Keep.nil)), st.imp (To.sat (by repeat (first | exact .nil | exact .done .refl | (apply To.cons; · (repeat (first | exact .head | apply Sel.tail))) | exact .done (by repeat (first | exact .refl | apply Drop.skip)))))⟩
    ·
      rintro act wo ⟨B, c, hs, f, h, hC, hB, hsl, st⟩
      refine g_of ?_ hsl st
      clear hsl st act wo
      refine g_cut (fun act wo => ∃ (B : Nat) (c : CW) (hs : List Tk) (f h : Nat), CI n B c hs f h ∧ B ≤ 2400 ∧ (∀ p, p < 3 → c.ps.getD p none = none) ∧ HasSl Try.f20.ntmps [(5, ptr q 0)] act ∧ St W0 (crowdA q r m n c :: A :: R) wo) ?_ ?_
      ·
        refine g_seq ?_
        refine g_region ?_
        refine gl_v rfl (o_assign rfl) ?_
        refine gl_nil ?_
        refine ge_then ?_
        refine g_block ?_
        refine g_loop (ι := Nat × Nat × CW × List Tk × Nat × Nat) (fun x => CI n x.2.1 x.2.2.1 x.2.2.2.1 x.2.2.2.2.1 x.2.2.2.2.2 ∧ x.1 ≤ 3 ∧ x.2.1 ≤ 1200 + 400 * x.1 ∧ ∀ u, u < x.1 → x.2.2.1.ps.getD u none = none) (fun x => [(8, I64 x.1), (5, ptr q 0)]) (fun x => crowdA q r m n x.2.2.1 :: A :: R) (fun x => 3 - x.1) (0, B, c, hs, f, h) (⟨hC, Nat.zero_le _, hB, fun u hu => absurd hu (Nat.not_lt_zero _)⟩) (Keep.cons rfl (Keep.cons rfl (Keep.nil))) (To.sat (by repeat (first | exact .nil | exact .done .refl | (apply To.cons; · (repeat (first | exact .head | apply Sel.tail))) | exact .done (by repeat (first | exact .refl | apply Drop.skip))))) ?_
        rintro ⟨p, B, c, hs, f, h⟩ ⟨hC, hp, hB, hno⟩
        have hC : CI n B c hs f h := hC
        have hp : p ≤ 3 := hp
        have hB : B ≤ 1200 + 400 * p := hB
        have hno : ∀ u, u < p → c.ps.getD u none = none := hno
        dsimp only
        refine g_seq ?_
        refine g_seq ?_
        refine g_region ?_
        refine gl_v rfl (o_move rfl) ?_
        refine gl_v rfl (o_lss rfl rfl) ?_
        refine gl_nil ?_
        refine ge_then ?_
        refine g_cond rfl (fun hc4 => ?_) (fun hc4 => ?_)
        ·
          first | replace hc4 := of_decide_eq_true hc4 | replace hc4 := lt_f hc4 | replace hc4 := le_f hc4 | replace hc4 := dec_f hc4 | replace hc4 := nlt_t hc4 | replace hc4 := nle_t hc4 | replace hc4 := ndec_t hc4 | replace hc4 := ndec_f hc4 | replace hc4 := nn_t hc4 | replace hc4 := nn_f hc4 | skip
          have hp3 : p < 3 := by omega
          refine g_skip ?_
          refine ge_then ?_
          refine g_seq ?_
          refine g_block ?_
          refine g_seq ?_
          refine g_region ?_
          refine gl_v rfl (o_assign rfl) ?_
          refine gl_nil ?_
          refine ge_then ?_
          refine g_block ?_
          refine g_loop (ι := Nat × Nat × CW × List Tk × Nat × Nat) (fun x => CI n x.2.1 x.2.2.1 x.2.2.2.1 x.2.2.2.2.1 x.2.2.2.2.2 ∧ x.1 ≤ 200 ∧ x.2.1 ≤ 1200 + 400 * p + 2 * x.1 ∧ (∀ u, u < p → x.2.2.1.ps.getD u none = none) ∧ ∀ o, x.2.2.1.ps.getD p none = some o → rk x.2.2.2.1.length o + x.1 ≤ 7) (fun x => [(9, I64 x.1), (8, I64 p), (5, ptr q 0)]) (fun x => crowdA q r m n x.2.2.1 :: A :: R) (fun x => 200 - x.1) (0, B, c, hs, f, h) (⟨hC, Nat.zero_le _, by show B ≤ 1200 + 400 * p + 2 * 0; omega, hno, fun o _ => (rk_le _ _).2⟩) (Keep.cons rfl (Keep.cons rfl (Keep.cons rfl (Keep.nil)))) (To.sat (by repeat (first | exact .nil | exact .done .refl | (apply To.cons; · (repeat (first | exact .head | apply Sel.tail))) | exact .done (by repeat (first | exact .refl | apply Drop.skip))))) ?_
          rintro ⟨i, B, c, hs, f, h⟩ ⟨hC, hi, hB, hno, hrk⟩
          have hC : CI n B c hs f h := hC
          have hi : i ≤ 200 := hi
          have hB : B ≤ 1200 + 400 * p + 2 * i := hB
          have hno : ∀ u, u < p → c.ps.getD u none = none := hno
          have hrk : ∀ o, c.ps.getD p none = some o → rk hs.length o + i ≤ 7 := hrk
          dsimp only
          refine g_seq ?_
          refine g_seq ?_
          refine g_open (by repeat (first | exact .head | apply Sel.tail)) ?_
          rintro ⟨a1, c1, a2, c2, a3, c3, a6, c6, k6, xs, ys, tk, t⟩ ⟨e1, e2, e3, e4, e5⟩
          dsimp only at e1 e2 e3 e4 e5
          simp only [crL, List.cons_append, List.nil_append]
          obtain ⟨z, hz0, hzp⟩ := get_any e1 hC.lp hp3
          have hzv : (xs.map oV)[p * 1]? = some (oV z) := by rw [Nat.mul_one]; exact map_at' hz0
          refine g_region ?_
          refine gl_v rfl (o_move rfl) ?_
          refine gl_v rfl (o_lss rfl rfl) ?_
          refine gl_v rfl (o_move rfl) ?_
          refine gl_g rfl rfl (fun hc5 => ?_) (fun hc5 => ?_) rfl
          ·
            have hc5' := hc5
            first | replace hc5' := of_decide_eq_true hc5' | replace hc5' := lt_f hc5' | replace hc5' := le_f hc5' | replace hc5' := dec_f hc5' | replace hc5' := nlt_t hc5' | replace hc5' := nle_t hc5' | replace hc5' := ndec_t hc5' | replace hc5' := ndec_f hc5' | replace hc5' := nn_t hc5' | replace hc5' := nn_f hc5' | skip
            refine gl_v rfl (o_move rfl) ?_
            refine gl_gT rfl rfl hc5 ?_
            refine gl_v rfl (o_nil rfl) ?_
            refine gl_gT rfl rfl hc5 ?_
            first | refine gl_v rfl (o_fldS rfl) ?_ | refine gl_v rfl (o_fld rfl) ?_
            refine gl_gT rfl rfl hc5 ?_
            first | refine gl_v rfl (o_load rfl rfl) ?_ | refine gl_v rfl (o_loadS rfl rfl) ?_ | refine gl_v rfl (o_loadC rfl) ?_
            refine gl_gT rfl rfl hc5 ?_
            refine gl_v rfl (o_move rfl) ?_
            refine gl_gT rfl rfl hc5 ?_
            refine gl_v rfl (o_idxS rfl rfl (by first | assumption | omega)) ?_
            refine gl_gT rfl rfl hc5 ?_
            refine gl_v rfl (o_loadS rfl hzv) ?_
            refine gl_gT rfl rfl hc5 ?_
            refine gl_v rfl (o_neqO rfl rfl) ?_
            refine gl_v rfl (o_pickT hc5 rfl rfl) ?_
            refine gl_nil ?_
            refine ge_imp (crowd_close ⟨a1, c1, a2, c2, a3, c3, a6, c6, k6, xs, ys, tk, t⟩ ⟨e1, e2, e3, e4, e5⟩ (by dsimp only [crL]; simp only [List.cons_append, List.nil_append]; exact (To.sat (by repeat (first | exact .nil | exact .done .refl | (apply To.cons; · (repeat (first | exact .head | apply Sel.tail))) | exact .done (by repeat (first | exact .refl | apply Drop.skip))))))) ?_
            refine ge_then ?_
            refine g_cond rfl (fun hc6 => ?_) (fun hc6 => ?_)
            ·
              first | replace hc6 := of_decide_eq_true hc6 | replace hc6 := lt_f hc6 | replace hc6 := le_f hc6 | replace hc6 := dec_f hc6 | replace hc6 := nlt_t hc6 | replace hc6 := nle_t hc6 | replace hc6 := ndec_t hc6 | replace hc6 := ndec_f hc6 | replace hc6 := nn_t hc6 | replace hc6 := nn_f hc6 | skip
              have hz : z.isSome = true := hc6
              refine g_skip ?_
              refine ge_then ?_
              refine g_seq ?_
              refine g_block ?_
              refine g_region ?_
              refine gl_v rfl (o_move rfl) ?_
              refine gl_v rfl (o_move rfl) ?_
              refine gl_c rfl (o_call rfl (put_spec q r m n p B c hs f h hC (by omega) hp3 false) (by repeat (first | exact .nil | (apply Part.cons; · (repeat (first | exact .head | apply Sel.tail)))))) ?_
              rintro _ R ⟨_, ⟨rfl, rfl⟩, rfl⟩
              try simp only [List.cons_append, List.nil_append]
              refine gl_nil ?_
              refine ge_block ?_
              refine ge_then ?_
              refine g_region ?_
              refine gl_v rfl (o_move rfl) ?_
              refine gl_v rfl (o_addR _ (by first | exact wr_i64 (by omega) | rfl) rfl rfl) ?_
              refine gl_v rfl (o_assign rfl) ?_
              refine gl_nil ?_
              obtain ⟨o, hps⟩ : ∃ o, c.ps.getD p none = some o := by rw [hzp]; cases z with | none => cases hz | some q => exact ⟨_, rfl⟩
              obtain ⟨hs', hC', hoth, hdec⟩ := hC.putStep (by omega) hp3 false
              refine ge_round (i + 1, B + 2, putStep n p false c, hs', f, h) ⟨hC', by show i + 1 ≤ 200; omega, by show B + 2 ≤ 1200 + 400 * p + 2 * (i + 1); omega, fun u hu => (hoth u (by omega)).trans (hno u hu), fun o' ho' => by
                have ho' : (putStep n p false c).ps.getD p none = some o' := ho'
                show rk hs'.length o' + (i + 1) ≤ 7
                have := hrk o hps
                rcases hdec o hps with h1 | ⟨o2, h1, h2⟩
                · rw [h1] at ho'; cases ho'
                · rw [h1] at ho'; cases ho'; omega⟩ (by show 200 - (i + 1) < 200 - i; omega) (Keep.cons rfl (Keep.cons rfl (Keep.cons rfl (Keep.nil)))) (To.sat (by repeat (first | exact .nil | exact .done .refl | (apply To.cons; · (repeat (first | exact .head | apply Sel.tail))) | exact .done (by repeat (first | exact .refl | apply Drop.skip)))))
            ·
              first | replace hc6 := of_decide_eq_true hc6 | replace hc6 := lt_f hc6 | replace hc6 := le_f hc6 | replace hc6 := dec_f hc6 | replace hc6 := nlt_t hc6 | replace hc6 := nle_t hc6 | replace hc6 := ndec_t hc6 | replace hc6 := ndec_f hc6 | replace hc6 := nn_t hc6 | replace hc6 := nn_f hc6 | skip
              have hz : z.isSome = false := hc6
              refine g_exit ?_
              refine ge_then_exit ?_
              refine ge_then_exit ?_
              refine ge_block_exit ?_
              refine ge_block ?_
              refine ge_then ?_
              have hnp : c.ps.getD p none = none := by
                first
                | (rw [hzp]; cases z with | none => rfl | some q => cases hz)
                | (cases hq : c.ps.getD p none with | none => rfl | some o => exact absurd (hrk o hq) (by have := (rk_le hs.length o).1; omega))
              refine g_region ?_
              refine gl_v rfl (o_move rfl) ?_
              refine gl_v rfl (o_addR _ (by first | exact wr_i64 (by omega) | rfl) rfl rfl) ?_
              refine gl_v rfl (o_assign rfl) ?_
              refine gl_nil ?_
              refine ge_round (p + 1, B, c, hs, f, h) ⟨hC, by show p + 1 ≤ 3; omega, by show B ≤ 1200 + 400 * (p + 1); omega, fun u hu => by
                have hu : u < p + 1 := hu
                by_cases e : u = p
                · rw [e]; exact hnp
                · exact hno u (by omega)⟩ (by show 3 - (p + 1) < 3 - p; omega) (Keep.cons rfl (Keep.cons rfl (Keep.nil))) (To.sat (by repeat (first | exact .nil | exact .done .refl | (apply To.cons; · (repeat (first | exact .head | apply Sel.tail))) | exact .done (by repeat (first | exact .refl | apply Drop.skip)))))
          ·
            have hc5' := hc5
            first | replace hc5' := of_decide_eq_true hc5' | replace hc5' := lt_f hc5' | replace hc5' := le_f hc5' | replace hc5' := dec_f hc5' | replace hc5' := nlt_t hc5' | replace hc5' := nle_t hc5' | replace hc5' := ndec_t hc5' | replace hc5' := ndec_f hc5' | replace hc5' := nn_t hc5' | replace hc5' := nn_f hc5' | skip
            simp only [putO]
            refine gl_gF rfl rfl hc5 rfl ?_
            refine gl_gF rfl rfl hc5 rfl ?_
            refine gl_gF rfl rfl hc5 rfl ?_
            refine gl_gF rfl rfl hc5 rfl ?_
            refine gl_gF rfl rfl hc5 rfl ?_
            refine gl_gF rfl rfl hc5 rfl ?_
            refine gl_gF rfl rfl hc5 rfl ?_
            refine gl_v rfl (o_pickF hc5 rfl rfl) ?_
            refine gl_nil ?_
            refine ge_imp (crowd_close ⟨a1, c1, a2, c2, a3, c3, a6, c6, k6, xs, ys, tk, t⟩ ⟨e1, e2, e3, e4, e5⟩ (by dsimp only [crL]; simp only [List.cons_append, List.nil_append]; exact (To.sat (by repeat (first | exact .nil | exact .done .refl | (apply To.cons; · (repeat (first | exact .head | apply Sel.tail))) | exact .done (by repeat (first | exact .refl | apply Drop.skip))))))) ?_
            refine ge_then ?_
            refine g_cond_false rfl ?_
            refine g_exit ?_
            refine ge_then_exit ?_
            refine ge_then_exit ?_
            refine ge_block_exit ?_
            refine ge_block ?_
            refine ge_then ?_
            have hnp : c.ps.getD p none = none := by
              first
              | (rw [hzp]; cases z with | none => rfl | some q => cases hz)
              | (cases hq : c.ps.getD p none with | none => rfl | some o => exact absurd (hrk o hq) (by have := (rk_le hs.length o).1; omega))
            refine g_region ?_
            refine gl_v rfl (o_move rfl) ?_
            refine gl_v rfl (o_addR _ (by first | exact wr_i64 (by omega) | rfl) rfl rfl) ?_
            refine gl_v rfl (o_assign rfl) ?_
            refine gl_nil ?_
            refine ge_round (p + 1, B, c, hs, f, h) ⟨hC, by show p + 1 ≤ 3; omega, by show B ≤ 1200 + 400 * (p + 1); omega, fun u hu => by
              have hu : u < p + 1 := hu
              by_cases e : u = p
              · rw [e]; exact hnp
              · exact hno u (by omega)⟩ (by show 3 - (p + 1) < 3 - p; omega) (Keep.cons rfl (Keep.cons rfl (Keep.nil))) (To.sat (by repeat (first | exact .nil | exact .done .refl | (apply To.cons; · (repeat (first | exact .head | apply Sel.tail))) | exact .done (by repeat (first | exact .refl | apply Drop.skip)))))
        ·
          first | replace hc4 := of_decide_eq_true hc4 | replace hc4 := lt_f hc4 | replace hc4 := le_f hc4 | replace hc4 := dec_f hc4 | replace hc4 := nlt_t hc4 | replace hc4 := nle_t hc4 | replace hc4 := ndec_t hc4 | replace hc4 := ndec_f hc4 | replace hc4 := nn_t hc4 | replace hc4 := nn_f hc4 | skip
          refine g_exit ?_
          refine ge_then_exit ?_
          refine ge_then_exit ?_
          refine ge_block_exit ?_
          exact fun act wo hsl st => ⟨B, c, hs, f, h, hC, by omega, fun u hu => hno u (by omega), hsl.keep (Keep.cons rfl (Keep.nil)), st.imp (To.sat (by repeat (first | exact .nil | exact .done .refl | (apply To.cons; · (repeat (first | exact .head | apply Sel.tail))) | exact .done (by repeat (first | exact .refl | apply Drop.skip)))))⟩
      ·
        rintro act wo ⟨B, c, hs, f, h, hC, hB, hno, hsl, st⟩
        refine g_of ?_ hsl st
        clear hsl st act wo
        refine g_cut (fun act wo => ∃ (c : CW) (hs : List Tk), CE n c hs ∧ HasSl Try.f20.ntmps [(5, ptr q 0)] act ∧ St W0 (crowdA q r m n c :: A :: R) wo) ?_ ?_
        ·
          refine g_seq ?_
          refine g_region ?_
          refine gl_v rfl (o_assign rfl) ?_
          refine gl_nil ?_
          refine ge_then ?_
          refine g_block ?_
          refine g_loop (ι := Nat × CW × Nat × Nat) (fun x => CI n B x.2.1 hs x.2.2.1 x.2.2.2 ∧ (∀ p, p < 3 → x.2.1.ps.getD p none = none) ∧ x.1 + nu hs.length x.2.2.2 x.2.1.tk ≤ 47) (fun x => [(10, I64 x.1), (5, ptr q 0)]) (fun x => crowdA q r m n x.2.1 :: A :: R) (fun x => 2000 - x.1) (0, c, f, h) (⟨hC, hno, by show 0 + nu hs.length h c.tk ≤ 47; have := hC.nu_le; omega⟩) (Keep.cons rfl (Keep.cons rfl (Keep.nil))) (To.sat (by repeat (first | exact .nil | exact .done .refl | (apply To.cons; · (repeat (first | exact .head | apply Sel.tail))) | exact .done (by repeat (first | exact .refl | apply Drop.skip))))) ?_
          rintro ⟨i, c, f, h⟩ ⟨hC, hno, hnu⟩
          have hC : CI n B c hs f h := hC
          have hno : ∀ p, p < 3 → c.ps.getD p none = none := hno
          have hnu : i + nu hs.length h c.tk ≤ 47 := hnu
          dsimp only
          refine g_seq ?_
          refine g_seq ?_
          refine g_region ?_
          refine gl_v rfl (o_move rfl) ?_
          refine gl_v rfl (o_lss rfl rfl) ?_
          refine gl_v rfl (o_move rfl) ?_
          refine gl_gT rfl rfl (decide_eq_true (by omega)) ?_
          refine gl_v rfl (o_move rfl) ?_
          refine gl_gT rfl rfl (decide_eq_true (by omega)) ?_
          refine gl_c rfl (o_call rfl (out_spec q r m n B c hs f h hC (by omega)) (by repeat (first | exact .nil | (apply Part.cons; · (repeat (first | exact .head | apply Sel.tail)))))) ?_
          rintro _ R ⟨_, ⟨rfl, rfl⟩, rfl⟩
          try simp only [List.cons_append, List.nil_append]
          refine gl_gT rfl rfl (decide_eq_true (by omega)) ?_
          refine gl_v rfl (o_not rfl) ?_
          refine gl_v rfl (o_pickT (decide_eq_true (by omega)) rfl rfl) ?_
          refine gl_nil ?_
          refine ge_then ?_
          refine g_cond rfl (fun hc7 => ?_) (fun hc7 => ?_)
          ·
            first | replace hc7 := of_decide_eq_true hc7 | replace hc7 := lt_f hc7 | replace hc7 := le_f hc7 | replace hc7 := dec_f hc7 | replace hc7 := nlt_t hc7 | replace hc7 := nle_t hc7 | replace hc7 := ndec_t hc7 | replace hc7 := ndec_f hc7 | replace hc7 := nn_t hc7 | replace hc7 := nn_f hc7 | skip
            have hb : (outStep n c).2 = false := hc7
            refine g_skip ?_
            refine ge_then ?_
            refine g_seq ?_
            refine g_block ?_
            refine g_skip ?_
            refine ge_block ?_
            refine ge_then ?_
            refine g_region ?_
            refine gl_v rfl (o_move rfl) ?_
            refine gl_v rfl (o_addR _ (by first | exact wr_i64 (by omega) | rfl) rfl rfl) ?_
            refine gl_v rfl (o_assign rfl) ?_
            refine gl_nil ?_
            obtain ⟨⟨f', h', hC', -, hlt⟩, hpe⟩ := hC.outStep (by omega)
            have hlt := hlt hb
            refine ge_round (i + 1, (outStep n c).1, f', h') ⟨hC', fun p hp => by show (outStep n c).1.ps.getD p none = none; rw [hpe]; exact hno p hp, by show i + 1 + nu hs.length h' (outStep n c).1.tk ≤ 47; omega⟩ (by show 2000 - (i + 1) < 2000 - i; omega) (Keep.cons rfl (Keep.cons rfl (Keep.nil))) (To.sat (by repeat (first | exact .nil | exact .done .refl | (apply To.cons; · (repeat (first | exact .head | apply Sel.tail))) | exact .done (by repeat (first | exact .refl | apply Drop.skip)))))
          ·
            first | replace hc7 := of_decide_eq_true hc7 | replace hc7 := lt_f hc7 | replace hc7 := le_f hc7 | replace hc7 := dec_f hc7 | replace hc7 := nlt_t hc7 | replace hc7 := nle_t hc7 | replace hc7 := ndec_t hc7 | replace hc7 := ndec_f hc7 | replace hc7 := nn_t hc7 | replace hc7 := nn_f hc7 | skip
            have hb : (outStep n c).2 = true := hc7
            refine g_exit ?_
            refine ge_then_exit ?_
            refine ge_then_exit ?_
            refine ge_block_exit ?_
            exact fun act wo hsl st => ⟨(outStep n c).1, hs, hC.ended (by omega) hno hb, hsl.keep (Keep.cons rfl (Keep.nil)), st.imp (To.sat (by repeat (first | exact .nil | exact .done .refl | (apply To.cons; · (repeat (first | exact .head | apply Sel.tail))) | exact .done (by repeat (first | exact .refl | apply Drop.skip)))))⟩
        ·
          rintro act wo ⟨c, hs, hE, hsl, st⟩
          refine g_of ?_ hsl st
          clear hsl st act wo
          obtain ⟨B, hB, hC⟩ := hE.ex
          have hB : B < 99999 := by omega
          refine g_cut (fun act wo => ∃ (c : CW) (hs : List Tk), CE n c hs ∧ HasSl Try.f20.ntmps [(5, ptr q 0)] act ∧ St W0 (crowdA q r m n c :: A :: R) wo) ?_ ?_
          ·
            refine g_seq ?_
            refine g_region ?_
            refine gl_v rfl (o_assign rfl) ?_
            refine gl_nil ?_
            refine ge_then ?_
            refine g_block ?_
            refine g_loop (ι := Nat × CW × Nat × Nat) (fun x => CI n B x.2.1 hs x.2.2.1 x.2.2.2 ∧ (∀ p, p < 3 → x.2.1.ps.getD p none = none) ∧ x.1 + nu hs.length x.2.2.2 x.2.1.tk ≤ 47) (fun x => [(11, I64 x.1), (5, ptr q 0)]) (fun x => crowdA q r m n x.2.1 :: A :: R) (fun x => 2000 - x.1) (0, c, hs.length, hs.length) (⟨hC, hE.ps, by show 0 + nu hs.length hs.length c.tk ≤ 47; have := hC.nu_le; omega⟩) (Keep.cons rfl (Keep.cons rfl (Keep.nil))) (To.sat (by repeat (first | exact .nil | exact .done .refl | (apply To.cons; · (repeat (first | exact .head | apply Sel.tail))) | exact .done (by repeat (first | exact .refl | apply Drop.skip))))) ?_
            rintro ⟨i, c, f, h⟩ ⟨hC, hno, hnu⟩
            have hC : CI n B c hs f h := hC
            have hno : ∀ p, p < 3 → c.ps.getD p none = none := hno
            have hnu : i + nu hs.length h c.tk ≤ 47 := hnu
            dsimp only
            refine g_seq ?_
            refine g_seq ?_
            refine g_region ?_
            refine gl_v rfl (o_move rfl) ?_
            refine gl_v rfl (o_lss rfl rfl) ?_
            refine gl_v rfl (o_move rfl) ?_
            refine gl_gT rfl rfl (decide_eq_true (by omega)) ?_
            refine gl_v rfl (o_move rfl) ?_
            refine gl_gT rfl rfl (decide_eq_true (by omega)) ?_
            refine gl_c rfl (o_call rfl (out_spec q r m n B c hs f h hC (by omega)) (by repeat (first | exact .nil | (apply Part.cons; · (repeat (first | exact .head | apply Sel.tail)))))) ?_
            rintro _ R ⟨_, ⟨rfl, rfl⟩, rfl⟩
            try simp only [List.cons_append, List.nil_append]
            refine gl_gT rfl rfl (decide_eq_true (by omega)) ?_
            refine gl_v rfl (o_not rfl) ?_
            refine gl_v rfl (o_pickT (decide_eq_true (by omega)) rfl rfl) ?_
            refine gl_nil ?_
            refine ge_then ?_
            refine g_cond rfl (fun hc8 => ?_) (fun hc8 => ?_)
            ·
              first | replace hc8 := of_decide_eq_true hc8 | replace hc8 := lt_f hc8 | replace hc8 := le_f hc8 | replace hc8 := dec_f hc8 | replace hc8 := nlt_t hc8 | replace hc8 := nle_t hc8 | replace hc8 := ndec_t hc8 | replace hc8 := ndec_f hc8 | replace hc8 := nn_t hc8 | replace hc8 := nn_f hc8 | skip
              have hb : (outStep n c).2 = false := hc8
              refine g_skip ?_
              refine ge_then ?_
              refine g_seq ?_
              refine g_block ?_
              refine g_skip ?_
              refine ge_block ?_
              refine ge_then ?_
              refine g_region ?_
              refine gl_v rfl (o_move rfl) ?_
              refine gl_v rfl (o_addR _ (by first | exact wr_i64 (by omega) | rfl) rfl rfl) ?_
              refine gl_v rfl (o_assign rfl) ?_
              refine gl_nil ?_
              obtain ⟨⟨f', h', hC', -, hlt⟩, hpe⟩ := hC.outStep (by omega)
              have hlt := hlt hb
              refine ge_round (i + 1, (outStep n c).1, f', h') ⟨hC', fun p hp => by show (outStep n c).1.ps.getD p none = none; rw [hpe]; exact hno p hp, by show i + 1 + nu hs.length h' (outStep n c).1.tk ≤ 47; omega⟩ (by show 2000 - (i + 1) < 2000 - i; omega) (Keep.cons rfl (Keep.cons rfl (Keep.nil))) (To.sat (by repeat (first | exact .nil | exact .done .refl | (apply To.cons; · (repeat (first | exact .head | apply Sel.tail))) | exact .done (by repeat (first | exact .refl | apply Drop.skip)))))
            ·
              first | replace hc8 := of_decide_eq_true hc8 | replace hc8 := lt_f hc8 | replace hc8 := le_f hc8 | replace hc8 := dec_f hc8 | replace hc8 := nlt_t hc8 | replace hc8 := nle_t hc8 | replace hc8 := ndec_t hc8 | replace hc8 := ndec_f hc8 | replace hc8 := nn_t hc8 | replace hc8 := nn_f hc8 | skip
              have hb : (outStep n c).2 = true := hc8
              refine g_exit ?_
              refine ge_then_exit ?_
              refine ge_then_exit ?_
              refine ge_block_exit ?_
              exact fun act wo hsl st => ⟨(outStep n c).1, hs, hC.ended (by omega) hno hb, hsl.keep (Keep.cons rfl (Keep.nil)), st.imp (To.sat (by repeat (first | exact .nil | exact .done .refl | (apply To.cons; · (repeat (first | exact .head | apply Sel.tail))) | exact .done (by repeat (first | exact .refl | apply Drop.skip)))))⟩
          ·
            rintro act wo ⟨c, hs, hE, hsl, st⟩
            refine g_of ?_ hsl st
            clear hsl st act wo
            refine g_seq ?_
            refine g_region ?_
            refine gl_v rfl (o_move rfl) ?_
            refine gl_v rfl (o_assign rfl) ?_
            refine gl_nil ?_
            refine ge_then ?_
            refine g_ret ?_
            refine ret1 (.inl rfl) rfl rfl _ (⟨q, r, m, c, hs, rfl, hE, rfl⟩) (To.sat (by repeat (first | exact .nil | exact .done .refl | (apply To.cons; · (repeat (first | exact .head | apply Sel.tail))) | exact .done (by repeat (first | exact .refl | apply Drop.skip)))))

end Go.Proofs.Ytnkcgfllehohbaa.L
