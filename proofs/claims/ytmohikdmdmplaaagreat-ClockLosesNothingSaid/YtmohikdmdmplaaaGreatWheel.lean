/-
  The wheel's functions: what each call does. Own work, printed in part by a program of its own.
-/
import Derived.Test.YtmohikdmdmplaaaGreatFacts
import Derived.Test.YtmohikdmdmplaaaGreatWheelP
import Derived.Test.YtmohikdmdmplaaaGreatDel
import Derived.Test.YtmohikdmdmplaaaGreatFns
import Derived.Test.YtmohikdmdmplaaaGreatSort
import Derived.Test.YtmohikdmdmplaaaGreatShelf
set_option linter.unusedSimpArgs false
set_option linter.unusedVariables false
set_option linter.unusedSectionVars false
namespace Go.Proofs.YtmohikdmdmplaaaGreat.L
open Go.L Go.L.Whl
/-- a slot: where its timers lie in memory, what they are -/
structure Sl where
  a : Option Addr
  c : Nat
  l : List Tm
deriving Inhabited
abbrev sv (x : Sl) : Value := .slice x.a x.l.length x.c
abbrev so (x : Sl) : Assn := own (.slice x.a x.l.length x.c) 131 3 x.l.length (x.l.flatMap te)
def wcs (now seq : Nat) (ss : List Sl) : List Value := I64 now :: I64 seq :: ss.map sv
abbrev wcel (p now seq : Nat) (ss : List Sl) : Assn := cel p 126 (wcs now seq ss)
abbrev wfam (ss : List Sl) : Assn := fam (ss.map so)
def wheel (p : Nat) (w : Wh) : Assn :=
  exA (ι := List Sl) (fun ss => Lies (fun t => posn w.now t.due) w.T (ss.map (·.l))) (fun ss => [wcel p w.now w.seq ss, wfam ss])
theorem wheel_close {p : Nat} {w : Wh} {As R : List Assn} (ss : List Sl) (h : Lies (fun t => posn w.now t.due) w.T (ss.map (·.l))) (t : ∀ h, Sat As h → Sat (wcel p w.now w.seq ss :: wfam ss :: R) h) : ∀ h, Sat As h → Sat (wheel p w :: R) h := ex_close ss h t
theorem te_len (t : Tm) : (te t).length = 3 := rfl
theorem wget {now seq : Nat} {ss : List Sl} {l s : Nat} {x : Sl} (h : ss[8 * l + s]? = some x) : (wcs now seq ss)[0 + 2 + l * 8 + s * 1]? = some (sv x) := by
  rw [show 0 + 2 + l * 8 + s * 1 = (8 * l + s) + 1 + 1 by omega]; simp [wcs, h]
theorem wset {now seq : Nat} {ss : List Sl} {l s : Nat} {x : Sl} : (wcs now seq ss).set (0 + 2 + l * 8 + s * 1) (sv x) = wcs now seq (ss.set (8 * l + s) x) := by
  rw [show 0 + 2 + l * 8 + s * 1 = (8 * l + s) + 1 + 1 by omega]; simp [wcs, List.map_set]
theorem wlen {now seq : Nat} {ss : List Sl} : (wcs now seq ss).length = ss.length + 2 := by simp [wcs]
theorem tget {l : List Tm} {i j : Nat} {t : Tm} {v : Value} (h : l[i]? = some t) (hv : (te t)[j]? = some v) : (l.flatMap te)[i * 3 + j]? = some v := flat_get te 3 te_len h hv
theorem tall {l : List Tm} {i : Nat} {t : Tm} (h : l[i]? = some t) : ((l.flatMap te).drop (i * 3)).take 3 = te t := flat_take te 3 te_len h
def sh (l x : Nat) : Nat := x / 2 ^ (3 * l)
theorem shI (k x : Nat) : (x : Int) / 2 ^ ((k : Nat) : Int).toNat = ((x / 2 ^ k : Nat) : Int) := by rw [Int.toNat_natCast]; simp
theorem posn_of {now due l : Nat} (h3 : l ≤ 3) (h : ∀ m, l < m → m ≤ 3 → sh m due = sh m now) (hl : l = 0 ∨ sh l due ≠ sh l now) : posn now due = 8 * l + sh l due % 8 := by
  have e1 := h 1; have e2 := h 2; have e3 := h 3
  unfold sh at *
  rcases (show l = 0 ∨ l = 1 ∨ l = 2 ∨ l = 3 by omega) with rfl | rfl | rfl | rfl <;> simp at * <;> unfold posn <;> (repeat' split) <;> omega
theorem sh_next {now due l : Nat} (h : ∀ m, l < m → m ≤ 3 → sh m due = sh m now) (e : sh l due = sh l now) : ∀ m, l - 1 < m → m ≤ 3 → sh m due = sh m now := fun m h1 h2 => by
  rcases Nat.lt_or_ge l m with x | x
  · exact h m x h2
  · have : m = l := by omega
    subst this; exact e
/-- how many timers lie ahead of a slot -/
def offs (ss : List Sl) (j : Nat) : Nat := ((ss.take j).map (fun x => x.l.length)).sum
theorem offs_succ {ss : List Sl} {j : Nat} {x : Sl} (h : ss[j]? = some x) : offs ss (j + 1) = offs ss j + x.l.length := by
  obtain ⟨hj, e⟩ := List.getElem?_eq_some_iff.1 h
  unfold offs; rw [List.take_succ_eq_append_getElem hj, e]; simp
theorem wset1 {now seq : Nat} {ss : List Sl} {l s n : Nat} {a : Option Addr} {c : Nat} {m : List Tm} (h : m.length = n) : (wcs now seq ss).set (0 + 2 + l * 8 + s * 1) (.slice a n c) = wcs now seq (ss.set (8 * l + s) ⟨a, c, m⟩) := by
  subst h; exact wset (x := ⟨a, c, m⟩)
theorem so_snoc {a : Option Addr} {c n : Nat} {m : List Tm} {t : Tm} (h : m.length = n) : own (.slice a (n + 1) c) 131 3 (n + 1) (m.flatMap te ++ te t) = so ⟨a, c, m ++ [t]⟩ := by subst h; simp [so, List.flatMap_append]
theorem flat_one (l : List Tm) : ∀ x ∈ l.flatMap te, x.oneCell' = true := fun x hx => by
  obtain ⟨t, _, h⟩ := List.mem_flatMap.1 hx
  simp [te] at h; rcases h with rfl | rfl | rfl <;> rfl
theorem del_fin {b c i m : Nat} {l : List Tm} {R : List Assn} (hi : i < l.length) (zs : List Value) : ∀ H, Sat (own (.slice (some ⟨b, 0, none⟩) l.length c) 131 3 l.length (((l.flatMap te).take (i * 3) ++ (l.flatMap te).drop ((i + 1) * 3) ++ (l.flatMap te).drop ((l.length - 1) * 3)).take ((l.length - 1) * 3) ++ rep zs m) :: R) H → Sat (so ⟨some ⟨b, 0, none⟩, c, l.eraseIdx i⟩ :: R) H := fun H s => by
  have h1 := own_cut (k := l.length - 1) (by omega) H s
  have hl : (l.flatMap te).length = l.length * 3 := flat_length te 3 te_len l
  have e1 : ((l.flatMap te).take (i * 3) ++ (l.flatMap te).drop ((i + 1) * 3)).length = (l.length - 1) * 3 := by rw [List.length_append, List.length_take, List.length_drop, hl]; omega
  have e2 : (l.flatMap te).take (i * 3) = (l.take i).flatMap te := by
    have h2 := congrArg (List.take (i * 3)) (show l.flatMap te = (l.take i).flatMap te ++ (l.drop i).flatMap te by rw [← List.flatMap_append, List.take_append_drop])
    rw [h2, List.take_append_of_le_length (by rw [flat_length te 3 te_len, List.length_take]; omega), List.take_of_length_le (by rw [flat_length te 3 te_len, List.length_take]; omega)]
  rw [List.take_left' e1, List.take_left' e1, e2, flat_drop te 3 te_len, ← List.flatMap_append, ← List.eraseIdx_eq_take_drop_succ] at h1
  have e3 : l.length - 1 = (l.eraseIdx i).length := by rw [List.length_eraseIdx, if_pos hi]
  rw [e3] at h1; exact h1
theorem own_some {v : Option Addr} {n c : Nat} {e : TypeId} {sz : Nat} {xs : List Value} {R : List Assn} (h : 0 < n) : ∀ H, Sat (own (.slice v n c) e sz n xs :: R) H → ∃ b, v = some ⟨b, 0, none⟩ ∧ n ≤ c := fun H s => by
  obtain ⟨_, _, _, _, ⟨_, hh | ⟨b, cap, sp, hv, _, h4, _⟩⟩, _⟩ := s
  · omega
  · simp only [Value.slice.injEq] at hv; exact ⟨b, hv.1, by rw [hv.2.2]; exact h4⟩
theorem flat_at {ss : List Sl} {j i : Nat} {x : Sl} {t : Tm} (h : ss[j]? = some x) (ht : x.l[i]? = some t) : (ss.flatMap (·.l))[offs ss j + i]? = some t := by
  obtain ⟨hj, e⟩ := List.getElem?_eq_some_iff.1 h
  have e1 : ss.flatMap (·.l) = (ss.take j).flatMap (·.l) ++ ((ss.drop j).flatMap (·.l)) := by rw [← List.flatMap_append, List.take_append_drop]
  have e2 : ((ss.take j).flatMap (·.l)).length = offs ss j := by unfold offs; rw [List.length_flatMap]
  rw [e1, List.getElem?_append_right (by omega), e2, Nat.add_sub_cancel_left, List.drop_eq_getElem_cons hj, e, List.flatMap_cons, List.getElem?_append_left (List.getElem?_eq_some_iff.1 ht).1]
  exact ht
theorem offs_all {ss : List Sl} (h : ss.length = 32) : offs ss 32 = (ss.flatMap (·.l)).length := by
  unfold offs; rw [List.take_of_length_le (by omega), List.length_flatMap]
theorem take_snoc {α β : Type} {f : α → β} {m : List α} {i : Nat} {t : α} (h : m[i]? = some t) : (m.take (i + 1)).map f = (m.take i).map f ++ [f t] := by
  obtain ⟨hi, e⟩ := List.getElem?_eq_some_iff.1 h
  rw [List.take_succ_eq_append_getElem hi, e, List.map_append]; rfl
theorem ret5 {P : Program} {W0 : World} {n : Nat} {sl : Slots} {As R : List Assn} {fn : Func} {post : Value → List Assn → Prop} {e : Exit} (he : e = .ret ∨ e = .normal) {t1 t2 t3 t4 t5 b1 b2 b3 b4 b5 : Nat} {T1 T2 T3 T4 T5 e1 e2 e3 e4 e5 sz : Nat} {v1 v2 v3 v5 : Value} {vs : List Value}
    {u1 u2 u3 u4 u5 : Obj → List Assn} [TCell P T1] [TCell P T2] [TCell P T3] [TAgg P T4 sz] [TCell P T5] [Owns b1 As (.cells [v1].toArray e1 (0, 0)) u1] [Owns b2 As (.cells [v2].toArray e2 (0, 0)) u2] [Owns b3 As (.cells [v3].toArray e3 (0, 0)) u3] [Owns b4 As (.cells vs.toArray e4 (0, 0)) u4] [Owns b5 As (.cells [v5].toArray e5 (0, 0)) u5]
    (hf : fn.results = #[.cell t1 T1, .cell t2 T2, .cell t3 T3, .cell t4 T4, .cell t5 T5]) (h1 : slk sl t1 = some (ptr b1 0)) (h2 : slk sl t2 = some (ptr b2 0)) (h3 : slk sl t3 = some (ptr b3 0)) (h4 : slk sl t4 = some (ptr b4 0)) (h5 : slk sl t5 = some (ptr b5 0)) (hl : vs.length = sz)
    (Bs : List Assn) (hp : post (.tuple #[v1, v2, v3, .agg vs.toArray, v5]) Bs) (hA : ∀ h, Sat As h → Sat (Bs ++ R) h) : GE W0 n sl As (FQ P W0 fn post R e) :=
  fq_ret he (fun a w hs s => by
    have r1 := cell_res (P := P) (T := T1) (b := b1) (off := 0) (v := v1) s rfl
    have r2 := cell_res (P := P) (T := T2) (b := b2) (off := 0) (v := v2) s rfl
    have r3 := cell_res (P := P) (T := T3) (b := b3) (off := 0) (v := v3) s rfl
    have r4 := agg_res (P := P) (T := T4) (b := b4) (off := 0) (vs := vs) s (by rw [List.drop_zero, List.take_of_length_le (by omega)]) hl
    have r5 := cell_res (P := P) (T := T5) (b := b5) (off := 0) (v := v5) s rfl
    simp [results, hf, hs.val _ _ h1, hs.val _ _ h2, hs.val _ _ h3, hs.val _ _ h4, hs.val _ _ h5, asAddr, r1, r2, r3, r4, r5]) Bs hp hA
def allGo (go : Nat → Bool) (k : Nat) : Prop := ∀ j, j < k → go j = true
theorem allGo.snoc {go : Nat → Bool} {k : Nat} (h : allGo go k) (e : go k = true) : allGo go (k + 1) := fun j hj => by
  rcases Nat.lt_or_ge j k with x | x
  · exact h j x
  · have : j = k := by omega
    subst this; exact e

set_option maxRecDepth 8000 in
theorem place_spec (p now due seq : Nat) (ss : List Sl) (hn : now < 4000000000000000000) (hd : due < 4000000000000000000) :
    FnS Tryz.prog 110 [ptr p 0, I64 due] [wcel p now seq ss] (fun u Bs => (∃ l s : Nat, u = .tuple #[I64 l, I64 s] ∧ l < 4 ∧ s < 8 ∧ posn now due = 8 * l + s) ∧ Bs = [wcel p now seq ss]) := by
 refine fn_body Tryz.func110 rfl rfl rfl ?_
 intro W0 R
 simp only [List.zipIdx_cons, List.zipIdx_nil, List.map_cons, List.map_nil, Nat.zero_add, Nat.reduceAdd, List.cons_append, List.nil_append]
 refine g_seq ?_
 refine g_region ?_
 refine gl_v rfl (o_assign rfl) ?_
 refine gl_v rfl (o_assign rfl) ?_
 refine gl_nil ?_
 refine ge_then ?_
 refine g_seq ?_
 refine g_region ?_
 refine gl_v rfl (o_assign rfl) ?_
 refine gl_nil ?_
 refine ge_then ?_
 refine g_seq ?_
 refine g_block ?_
 refine g_loop (ι := Nat) (fun l => l ≤ 3 ∧ ∀ m, l < m → m ≤ 3 → sh m due = sh m now) (fun l => [(6, I64 l), (0, ptr p 0), (1, I64 due)]) (fun _ => wcel p now seq ss :: R) (fun l => l) 3 (⟨Nat.le_refl _, fun m h1 h2 => by omega⟩) (Keep.cons rfl (Keep.cons rfl (Keep.cons rfl (Keep.nil)))) (To.sat (by repeat (first | exact .nil | exact .done .refl | (apply To.cons; · (repeat (first | exact .head | apply Sel.tail))) | exact .done (by repeat (first | exact .refl | apply Drop.skip))))) ?_
 rintro l ⟨hl3, hl⟩
 refine g_seq ?_
 refine g_seq ?_
 refine g_draw [] [] [(0, .loc), (1, .loc), (2, .loc), (3, .loc), (4, .loc), (5, .loc), (6, .loc), (7, .loc), (8, .loc), (9, .loc), (10, .loc), (11, .loc), (12, .loc), (13, .loc), (14, .loc), (15, .loc)] [] mixed (by kernel_rfl) ?_
 refine go_v rfl .none rfl (o_move rfl) ?_
 refine go_v rfl .none rfl (o_gtr rfl rfl) ?_
 refine go_v rfl .none rfl (o_move rfl) ?_
 refine go_split (j := 2) rfl rfl (fun hc1 => ?_) (fun hc1 => ?_)
 ·
  have hc1' := hc1
  first | replace hc1' := of_decide_eq_true hc1' | replace hc1' := lt_f hc1' | replace hc1' := le_f hc1' | replace hc1' := dec_f hc1' | replace hc1' := nlt_t hc1' | replace hc1' := nle_t hc1' | replace hc1' := ndec_t hc1' | replace hc1' := ndec_f hc1' | replace hc1' := nn_t hc1' | replace hc1' := nn_f hc1' | skip
  refine go_v rfl (.yes rfl rfl hc1) rfl (o_move rfl) ?_
  refine go_v rfl (.yes rfl rfl hc1) rfl (o_move rfl) ?_
  refine go_v rfl (.yes rfl rfl hc1) rfl (o_mulR ((3 * l : Nat) : Int) (by rw [wr_i64 (by omega)]; omega) rfl rfl) ?_
  refine go_v rfl (.yes rfl rfl hc1) rfl (o_shr ((sh l due : Nat) : Int) (shI _ _) rfl rfl (by omega) (by show ((3 * l : Nat) : Int) ≤ 64; omega)) ?_
  refine go_v rfl (.yes rfl rfl hc1) rfl (o_move rfl) ?_
  refine go_v rfl (.yes rfl rfl hc1) rfl (o_nil rfl) ?_
  first | refine go_v rfl (.yes rfl rfl hc1) rfl (o_fldS rfl) ?_ | refine go_v rfl (.yes rfl rfl hc1) rfl (o_fld rfl) ?_
  refine go_v rfl (.yes rfl rfl hc1) rfl (o_load rfl (l := wcs now seq ss) (v := I64 now) rfl) ?_
  refine go_v rfl (.yes rfl rfl hc1) rfl (o_move rfl) ?_
  refine go_v rfl (.yes rfl rfl hc1) rfl (o_mulR ((3 * l : Nat) : Int) (by rw [wr_i64 (by omega)]; omega) rfl rfl) ?_
  refine go_v rfl (.yes rfl rfl hc1) rfl (o_shr ((sh l now : Nat) : Int) (shI _ _) rfl rfl (by omega) (by show ((3 * l : Nat) : Int) ≤ 64; omega)) ?_
  refine go_v rfl (.yes rfl rfl hc1) rfl (o_eql rfl rfl) ?_
  refine go_v rfl .none rfl (o_pickT hc1 rfl rfl) ?_
  refine go_nil ?_
  refine ge_then ?_
  refine g_cond rfl (fun hc2 => ?_) (fun hc2 => ?_)
  ·
   first | replace hc2 := of_decide_eq_true hc2 | replace hc2 := lt_f hc2 | replace hc2 := le_f hc2 | replace hc2 := dec_f hc2 | replace hc2 := nlt_t hc2 | replace hc2 := nle_t hc2 | replace hc2 := ndec_t hc2 | replace hc2 := ndec_f hc2 | replace hc2 := nn_t hc2 | replace hc2 := nn_f hc2 | skip
   have hcc : sh l due = sh l now := by omega
   refine g_skip ?_
   refine ge_then ?_
   refine g_block ?_
   refine g_region ?_
   refine gl_v rfl (o_move rfl) ?_
   refine gl_v rfl (o_subR ((l - 1 : Nat) : Int) (by rw [wr_i64 (by omega)]; omega) rfl rfl) ?_
   refine gl_v rfl (o_assign rfl) ?_
   refine gl_nil ?_
   refine ge_block ?_
   refine ge_round (l - 1) ⟨by omega, sh_next hl hcc⟩ (by omega) (Keep.cons rfl (Keep.cons rfl (Keep.cons rfl Keep.nil))) (To.sat (by repeat (first | exact .nil | exact .done .refl | (apply To.cons; · (repeat (first | exact .head | apply Sel.tail))) | exact .done (by repeat (first | exact .refl | apply Drop.skip)))))
  ·
   first | replace hc2 := of_decide_eq_true hc2 | replace hc2 := lt_f hc2 | replace hc2 := le_f hc2 | replace hc2 := dec_f hc2 | replace hc2 := nlt_t hc2 | replace hc2 := nle_t hc2 | replace hc2 := ndec_t hc2 | replace hc2 := ndec_f hc2 | replace hc2 := nn_t hc2 | replace hc2 := nn_f hc2 | skip
   have hcc : l = 0 ∨ sh l due ≠ sh l now := by omega
   refine g_exit ?_
   refine ge_then_exit ?_
   refine ge_then_exit ?_
   refine ge_block_exit ?_
   refine ge_then ?_
   refine g_seq ?_
   refine g_draw [] [] [(0, .loc), (1, .loc), (2, .loc), (3, .loc), (4, .loc), (5, .loc), (6, .loc), (7, .loc)] [] mixed (by kernel_rfl) ?_
   refine go_v rfl .none rfl (o_move rfl) ?_
   refine go_v rfl .none rfl (o_move rfl) ?_
   refine go_v rfl .none rfl (o_move rfl) ?_
   refine go_v rfl .none rfl (o_mulR ((3 * l : Nat) : Int) (by rw [wr_i64 (by omega)]; omega) rfl rfl) ?_
   refine go_v rfl .none rfl (o_shr ((sh l due : Nat) : Int) (shI _ _) rfl rfl (by omega) (by show ((3 * l : Nat) : Int) ≤ 64; omega)) ?_
   refine go_v rfl .none rfl (o_remR ((sh l due % 8 : Nat) : Int) (tmodn _ 8) rfl rfl (by decide)) ?_
   refine go_v rfl .none rfl (o_assign rfl) ?_
   refine go_v rfl .none rfl (o_assign rfl) ?_
   refine go_nil ?_
   refine ge_then ?_
   refine g_ret ?_
   refine ret2 (.inl rfl) rfl rfl rfl _ (⟨⟨l, sh l due % 8, rfl, by omega, Nat.mod_lt _ (by decide), posn_of hl3 hl (by first | exact hcc | (left; omega))⟩, rfl⟩) (To.sat (by repeat (first | exact .nil | exact .done .refl | (apply To.cons; · (repeat (first | exact .head | apply Sel.tail))) | exact .done (by repeat (first | exact .refl | apply Drop.skip)))))
 ·
  have hc1' := hc1
  first | replace hc1' := of_decide_eq_true hc1' | replace hc1' := lt_f hc1' | replace hc1' := le_f hc1' | replace hc1' := dec_f hc1' | replace hc1' := nlt_t hc1' | replace hc1' := nle_t hc1' | replace hc1' := ndec_t hc1' | replace hc1' := ndec_f hc1' | replace hc1' := nn_t hc1' | replace hc1' := nn_f hc1' | skip
  refine go_skip rfl (.no rfl rfl hc1) rfl ?_
  refine go_skip rfl (.no rfl rfl hc1) rfl ?_
  refine go_skip rfl (.no rfl rfl hc1) rfl ?_
  refine go_skip rfl (.no rfl rfl hc1) rfl ?_
  refine go_skip rfl (.no rfl rfl hc1) rfl ?_
  refine go_skip rfl (.no rfl rfl hc1) rfl ?_
  refine go_skip rfl (.no rfl rfl hc1) rfl ?_
  refine go_skip rfl (.no rfl rfl hc1) rfl ?_
  refine go_skip rfl (.no rfl rfl hc1) rfl ?_
  refine go_skip rfl (.no rfl rfl hc1) rfl ?_
  refine go_skip rfl (.no rfl rfl hc1) rfl ?_
  refine go_skip rfl (.no rfl rfl hc1) rfl ?_
  refine go_v rfl .none rfl (o_pickF hc1 rfl rfl) ?_
  refine go_nil ?_
  refine ge_then ?_
  refine g_cond_false rfl ?_
  refine g_exit ?_
  refine ge_then_exit ?_
  refine ge_then_exit ?_
  refine ge_block_exit ?_
  refine ge_then ?_
  refine g_seq ?_
  refine g_draw [] [] [(0, .loc), (1, .loc), (2, .loc), (3, .loc), (4, .loc), (5, .loc), (6, .loc), (7, .loc)] [] mixed (by kernel_rfl) ?_
  refine go_v rfl .none rfl (o_move rfl) ?_
  refine go_v rfl .none rfl (o_move rfl) ?_
  refine go_v rfl .none rfl (o_move rfl) ?_
  refine go_v rfl .none rfl (o_mulR ((3 * l : Nat) : Int) (by rw [wr_i64 (by omega)]; omega) rfl rfl) ?_
  refine go_v rfl .none rfl (o_shr ((sh l due : Nat) : Int) (shI _ _) rfl rfl (by omega) (by show ((3 * l : Nat) : Int) ≤ 64; omega)) ?_
  refine go_v rfl .none rfl (o_remR ((sh l due % 8 : Nat) : Int) (tmodn _ 8) rfl rfl (by decide)) ?_
  refine go_v rfl .none rfl (o_assign rfl) ?_
  refine go_v rfl .none rfl (o_assign rfl) ?_
  refine go_nil ?_
  refine ge_then ?_
  refine g_ret ?_
  refine ret2 (.inl rfl) rfl rfl rfl _ (⟨⟨l, sh l due % 8, rfl, by omega, Nat.mod_lt _ (by decide), posn_of hl3 hl (by first | exact hcc | (left; omega))⟩, rfl⟩) (To.sat (by repeat (first | exact .nil | exact .done .refl | (apply To.cons; · (repeat (first | exact .head | apply Sel.tail))) | exact .done (by repeat (first | exact .refl | apply Drop.skip)))))

set_option maxRecDepth 8000 in
theorem lay_spec (p now seq : Nat) (ss : List Sl) (t : Tm) (hn : now < 4000000000000000000) (hd : t.due < 4000000000000000000) (hlen : ss.length = 32) (hb : ∀ x ∈ ss, x.l.length ≤ 1000) :
    FnS Tryz.prog 100 [ptr p 0, .agg (te t).toArray] [wcel p now seq ss, wfam ss] (fun u Bs => u = .tuple #[] ∧ ∃ ss' : List Sl, ss'.map (·.l) = (ss.map (·.l)).set (posn now t.due) ((ss.map (·.l)).getD (posn now t.due) [] ++ [t]) ∧ Bs = [wcel p now seq ss', wfam ss']) := by
 refine fn_body Tryz.func100 rfl rfl rfl ?_
 intro W0 R
 simp only [List.zipIdx_cons, List.zipIdx_nil, List.map_cons, List.map_nil, Nat.zero_add, Nat.reduceAdd, List.cons_append, List.nil_append]
 refine g_seq ?_
 refine g_region ?_
 refine gl_n rfl (o_boxA rfl) ?_
 rintro _ _ ⟨b3, rfl, rfl⟩
 refine gl_nil ?_
 refine ge_then ?_
 refine g_seq ?_
 refine g_region ?_
 refine gl_v rfl (o_move rfl) ?_
 first | refine gl_v rfl (o_fldS rfl) ?_ | refine gl_v rfl (o_fld rfl) ?_
 first | refine gl_v rfl (o_load rfl rfl) ?_ | refine gl_v rfl (o_loadS rfl rfl) ?_ | refine gl_v rfl (o_loadC rfl) ?_
 refine gl_c rfl (o_call rfl (place_spec p now t.due seq ss hn hd) (by repeat (first | exact .nil | (apply Part.cons; · (repeat (first | exact .head | apply Sel.tail)))))) ?_
 rintro _ R ⟨_, ⟨⟨l, s, rfl, hl, hs, hp⟩, rfl⟩, rfl⟩
 try simp only [List.cons_append, List.nil_append]
 refine gl_v rfl (o_move rfl) ?_
 refine gl_v rfl (o_extract rfl rfl) ?_
 refine gl_v rfl (o_extract rfl rfl) ?_
 refine gl_v rfl (o_assign rfl) ?_
 refine gl_v rfl (o_assign rfl) ?_
 refine gl_nil ?_
 refine ge_then ?_
 obtain ⟨x, hx⟩ : ∃ x, ss[8 * l + s]? = some x := ⟨_, List.getElem?_eq_getElem (by omega)⟩
 refine g_fo (by repeat (first | exact .head | apply Sel.tail)) (map_at' hx) ?_
 refine g_draw [12, 13, 18] [12, 13] [(0, .stab), (1, .stab), (2, .stab), (3, .stab), (4, .stab), (5, .stab), (6, .stab), (7, .stab), (8, .stab), (9, .stab), (10, .stab), (11, .loc), (14, .stab), (15, .stab), (16, .stab), (12, .eff), (13, .eff), (17, .loc), (18, .eff)] [wcel p now seq ss] mixed (by kernel_rfl) ?_
 refine go_vs rfl .none rfl (o_move rfl) (To.sat (by repeat (first | exact .nil | exact .done .refl | (apply To.cons; · (repeat (first | exact .head | apply Sel.tail))) | exact .done (by repeat (first | exact .refl | apply Drop.skip))))) ?_
 refine go_vs rfl .none rfl (o_move rfl) (To.sat (by repeat (first | exact .nil | exact .done .refl | (apply To.cons; · (repeat (first | exact .head | apply Sel.tail))) | exact .done (by repeat (first | exact .refl | apply Drop.skip))))) ?_
 refine go_vs rfl .none rfl (o_move rfl) (To.sat (by repeat (first | exact .nil | exact .done .refl | (apply To.cons; · (repeat (first | exact .head | apply Sel.tail))) | exact .done (by repeat (first | exact .refl | apply Drop.skip))))) ?_
 refine go_vs rfl .none rfl (o_move rfl) (To.sat (by repeat (first | exact .nil | exact .done .refl | (apply To.cons; · (repeat (first | exact .head | apply Sel.tail))) | exact .done (by repeat (first | exact .refl | apply Drop.skip))))) ?_
 refine go_vs rfl .none rfl (o_move rfl) (To.sat (by repeat (first | exact .nil | exact .done .refl | (apply To.cons; · (repeat (first | exact .head | apply Sel.tail))) | exact .done (by repeat (first | exact .refl | apply Drop.skip))))) ?_
 refine go_vs rfl .none rfl (o_move rfl) (To.sat (by repeat (first | exact .nil | exact .done .refl | (apply To.cons; · (repeat (first | exact .head | apply Sel.tail))) | exact .done (by repeat (first | exact .refl | apply Drop.skip))))) ?_
 refine go_vs rfl .none rfl (o_nil rfl) (To.sat (by repeat (first | exact .nil | exact .done .refl | (apply To.cons; · (repeat (first | exact .head | apply Sel.tail))) | exact .done (by repeat (first | exact .refl | apply Drop.skip))))) ?_
 first | refine go_vs rfl .none rfl (o_fldS rfl) (To.sat (by repeat (first | exact .nil | exact .done .refl | (apply To.cons; · (repeat (first | exact .head | apply Sel.tail))) | exact .done (by repeat (first | exact .refl | apply Drop.skip))))) ?_ | refine go_vs rfl .none rfl (o_fld rfl) (To.sat (by repeat (first | exact .nil | exact .done .refl | (apply To.cons; · (repeat (first | exact .head | apply Sel.tail))) | exact .done (by repeat (first | exact .refl | apply Drop.skip))))) ?_
 refine go_vs rfl .none rfl (o_idxA rfl rfl hl) (To.sat (by repeat (first | exact .nil | exact .done .refl | (apply To.cons; · (repeat (first | exact .head | apply Sel.tail))) | exact .done (by repeat (first | exact .refl | apply Drop.skip))))) ?_
 refine go_vs rfl .none rfl (o_idxA rfl rfl hs) (To.sat (by repeat (first | exact .nil | exact .done .refl | (apply To.cons; · (repeat (first | exact .head | apply Sel.tail))) | exact .done (by repeat (first | exact .refl | apply Drop.skip))))) ?_
 refine go_vs rfl .none rfl (o_load rfl (wget hx)) (To.sat (by repeat (first | exact .nil | exact .done .refl | (apply To.cons; · (repeat (first | exact .head | apply Sel.tail))) | exact .done (by repeat (first | exact .refl | apply Drop.skip))))) ?_
 refine go_v rfl .none rfl (o_loadA rfl (vs := te t) rfl rfl) ?_
 refine go_vs rfl .none rfl (o_nil rfl) (To.sat (by repeat (first | exact .nil | exact .done .refl | (apply To.cons; · (repeat (first | exact .head | apply Sel.tail))) | exact .done (by repeat (first | exact .refl | apply Drop.skip))))) ?_
 first | refine go_vs rfl .none rfl (o_fldS rfl) (To.sat (by repeat (first | exact .nil | exact .done .refl | (apply To.cons; · (repeat (first | exact .head | apply Sel.tail))) | exact .done (by repeat (first | exact .refl | apply Drop.skip))))) ?_ | refine go_vs rfl .none rfl (o_fld rfl) (To.sat (by repeat (first | exact .nil | exact .done .refl | (apply To.cons; · (repeat (first | exact .head | apply Sel.tail))) | exact .done (by repeat (first | exact .refl | apply Drop.skip))))) ?_
 refine go_vs rfl .none rfl (o_idxA rfl rfl hl) (To.sat (by repeat (first | exact .nil | exact .done .refl | (apply To.cons; · (repeat (first | exact .head | apply Sel.tail))) | exact .done (by repeat (first | exact .refl | apply Drop.skip))))) ?_
 first | refine go_n rfl .none rfl (o_buildS1 rfl rfl rfl) ?_ | refine go_n rfl .none rfl (o_buildS1A rfl rfl rfl rfl) ?_ | refine go_n rfl .none rfl (o_buildS rfl rfl rfl rfl) ?_
 rintro _ _ ⟨b25, rfl, rfl⟩
 refine ⟨(fun _ => (To.sat (by repeat (first | exact .nil | exact .done .refl | (apply To.cons; · (repeat (first | exact .head | apply Sel.tail))) | exact .done (by repeat (first | exact .refl | apply Drop.skip)))))), ?_⟩
 refine go_n rfl .none rfl (o_append rfl rfl (by repeat (first | exact .nil | (apply Part.cons; · (repeat (first | exact .head | apply Sel.tail))))) rfl rfl rfl (by have := hb x (List.mem_of_getElem? hx); omega) (by have := hb x (List.mem_of_getElem? hx); unfold maxLen; omega)) ?_
 rintro _ _ ⟨a26, c26, rfl, rfl⟩
 rw [so_snoc rfl]
 refine ⟨(fun _ => (To.sat (by repeat (first | exact .nil | exact .done .refl | (apply To.cons; · (repeat (first | exact .head | apply Sel.tail))) | exact .done (by repeat (first | exact .refl | apply Drop.skip)))))), ?_⟩
 refine go_v rfl .none rfl (o_idxA rfl rfl hs) ?_
 refine go_u rfl .none (o_store rfl rfl rfl (by rw [wlen, hlen]; simp [Nat.blt_eq]; omega)) (fun hG => absurd hG (by decide)) ?_
 rw [wset1 (m := x.l ++ [t]) (by simp)]
 refine go_nil ?_
 refine ge_imp (fs (A := so ⟨a26, c26, x.l ++ [t]⟩) (i := 8 * l + s) (l := ss.map so) (by repeat (first | exact .head | apply Sel.tail)) (by repeat (first | exact .head | apply Sel.tail)) (by simp; omega)) ?_
 refine ret0 (.inr rfl) rfl [wcel p now seq (ss.set (8 * l + s) ⟨a26, c26, x.l ++ [t]⟩), wfam (ss.set (8 * l + s) ⟨a26, c26, x.l ++ [t]⟩)] (⟨rfl, _, by rw [hp, List.map_set, List.getD_eq_getElem?_getD, List.getElem?_map, hx]; rfl, rfl⟩) (by rw [wfam, List.map_set]; exact (To.sat (by repeat (first | exact .nil | exact .done .refl | (apply To.cons; · (repeat (first | exact .head | apply Sel.tail))) | exact .done (by repeat (first | exact .refl | apply Drop.skip))))))

set_option maxRecDepth 8000 in
theorem del_spec (a : Option Addr) (c i : Nat) (l : List Tm) (hi : i < l.length) (hb : l.length ≤ 1000) :
    FnS Tryz.prog 104 [.slice a l.length c, I64 i, I64 ((i + 1 : Nat) : Int)] [so ⟨a, c, l⟩] (fun u Bs => u = .slice a (l.length - 1) c ∧ Bs = [so ⟨a, c, l.eraseIdx i⟩]) := by
 refine fn_body Tryz.func104 rfl rfl rfl ?_
 intro W0 R
 simp only [List.zipIdx_cons, List.zipIdx_nil, List.map_cons, List.map_nil, Nat.zero_add, Nat.reduceAdd, List.cons_append, List.nil_append]
 refine g_fact (own_some (show 0 < l.length by omega)) ?_
 rintro ⟨b, rfl, hnc⟩
 replace hnc : l.length ≤ c := hnc
 refine g_seq ?_
 refine g_region ?_
 refine gl_v rfl (o_assign rfl) ?_
 refine gl_nil ?_
 refine ge_then ?_
 refine g_seq ?_
 refine g_region ?_
 refine gl_v rfl (o_move rfl) ?_
 refine gl_v rfl (o_move rfl) ?_
 refine gl_v rfl (o_move rfl) ?_
 refine gl_v rfl (o_move rfl) ?_
 refine gl_v rfl (o_lenL rfl) ?_
 refine gl_v rfl (o_sl3 rfl rfl rfl rfl (by omega) (by omega) hnc) ?_
 refine gl_nil ?_
 refine ge_then ?_
 refine g_seq ?_
 refine g_seq ?_
 refine g_region ?_
 refine gl_v rfl (o_move rfl) ?_
 refine gl_v rfl (o_move rfl) ?_
 refine gl_v rfl (o_is (c := false) (by simp; omega) (o_eql rfl rfl)) ?_
 refine gl_nil ?_
 refine ge_then ?_
 refine g_cond_false rfl ?_
 refine g_skip ?_
 refine ge_then ?_
 refine g_seq ?_
 refine g_region ?_
 refine gl_v rfl (o_move rfl) ?_
 refine gl_v rfl (o_lenL rfl) ?_
 refine gl_v rfl (o_assign rfl) ?_
 refine gl_nil ?_
 refine ge_then ?_
 refine g_seq ?_
 refine g_draw [6] [] [(0, .loc), (1, .loc), (2, .loc), (3, .loc), (4, .loc), (5, .loc), (6, .eff), (7, .loc)] [] mixed (by kernel_rfl) ?_
 refine go_v rfl .none rfl (o_move rfl) ?_
 refine go_v rfl .none rfl (o_move rfl) ?_
 refine go_v rfl .none rfl (o_slTo rfl rfl (by omega)) ?_
 refine go_v rfl .none rfl (o_move rfl) ?_
 refine go_v rfl .none rfl (o_move rfl) ?_
 refine go_v rfl .none rfl (o_slFrom rfl rfl (by omega)) ?_
 refine go_n rfl .none rfl (o_appendOver (k := l.length) (j := i + 1) (sz := 3) rfl rfl (by omega) (by omega) hnc (flat_one l)) ?_
 rintro _ _ ⟨rfl, rfl⟩
 rw [show i + (l.length - (i + 1)) = l.length - 1 by omega]
 refine ⟨(fun hG => absurd hG (by decide)), ?_⟩
 refine go_v rfl .none rfl (o_assign rfl) ?_
 refine go_nil ?_
 refine ge_then ?_
 refine g_seq ?_
 refine g_region ?_
 refine gl_v rfl (o_move rfl) ?_
 refine gl_v rfl (o_move rfl) ?_
 refine gl_v rfl (o_lenL rfl) ?_
 refine gl_v rfl (o_move rfl) ?_
 refine gl_v rfl (o_slSub rfl rfl rfl (by omega) (by omega)) ?_
 refine gl_n0 (o_clear (k := l.length - 1) (m := l.length - (l.length - 1)) (show l.length - 1 + (l.length - (l.length - 1)) = l.length by omega) rfl (by omega) (by intro x hx; simp at hx; rcases hx with rfl | rfl <;> rfl)) ?_
 rintro _ _ ⟨rfl, rfl⟩
 refine gl_nil ?_
 refine ge_then ?_
 refine g_seq ?_
 refine g_region ?_
 refine gl_v rfl (o_move rfl) ?_
 refine gl_v rfl (o_assign rfl) ?_
 refine gl_nil ?_
 refine ge_then ?_
 refine g_ret ?_
 refine ret1 (.inl rfl) rfl rfl [so ⟨some ⟨b, 0, none⟩, c, l.eraseIdx i⟩] (⟨rfl, rfl⟩) (del_fin hi _)

set_option maxRecDepth 8000 in
theorem each_spec {g : FuncId} [TFunc Tryz.prog g] (cap : List Value) (Inv : Nat → Assn) (go : Nat → Bool) (p now seq : Nat) (ss : List Sl) (hlen : ss.length = 32) (hb : ∀ x ∈ ss, x.l.length ≤ 1000)
    (hdo : ∀ (l s i : Nat) (x : Sl) (t : Tm), l < 4 → s < 8 → ss[8 * l + s]? = some x → x.l[i]? = some t → allGo go (offs ss (8 * l + s) + i) → FnS Tryz.prog g ([I64 l, I64 s, I64 i, .agg (te t).toArray] ++ cap) [Inv (offs ss (8 * l + s) + i)] (fun u Bs => u = .bool (go (offs ss (8 * l + s) + i)) ∧ Bs = [Inv (offs ss (8 * l + s) + i + 1)])) :
    FnS Tryz.prog 72 [ptr p 0, .func (.func g) #[] cap.toArray] [wcel p now seq ss, wfam ss, Inv 0] (fun u Bs => u = .tuple #[] ∧ ∃ k, ((k = offs ss 32 ∧ allGo go k) ∨ ∃ (l s i : Nat) (x : Sl) (t : Tm), l < 4 ∧ s < 8 ∧ ss[8 * l + s]? = some x ∧ x.l[i]? = some t ∧ k = offs ss (8 * l + s) + i + 1 ∧ allGo go (offs ss (8 * l + s) + i) ∧ go (offs ss (8 * l + s) + i) = false) ∧ Bs = [wcel p now seq ss, wfam ss, Inv k]) := by
 refine fn_body Tryz.func72 rfl rfl rfl ?_
 intro W0 R
 simp only [List.zipIdx_cons, List.zipIdx_nil, List.map_cons, List.map_nil, Nat.zero_add, Nat.reduceAdd, List.cons_append, List.nil_append]
 refine g_seq ?_
 refine g_region ?_
 refine gl_v rfl (o_move rfl) ?_
 refine gl_nil ?_
 refine ge_then ?_
 refine g_block ?_
 refine g_loop (ι := Nat) (fun l => l ≤ 4 ∧ allGo go (offs ss (8 * l))) (fun l => [(8, I64 l), (0, ptr p 0), (1, .func (.func g) #[] cap.toArray)]) (fun l => wcel p now seq ss :: wfam ss :: Inv (offs ss (8 * l)) :: R) (fun l => 4 - l) 0 (⟨Nat.zero_le _, fun j hj => absurd hj (Nat.not_lt_zero j)⟩) (Keep.cons rfl (Keep.cons rfl (Keep.cons rfl (Keep.nil)))) (To.sat (by repeat (first | exact .nil | exact .done .refl | (apply To.cons; · (repeat (first | exact .head | apply Sel.tail))) | exact .done (by repeat (first | exact .refl | apply Drop.skip))))) ?_
 rintro l ⟨hl4, hgo⟩
 refine g_seq ?_
 refine g_region ?_
 refine gl_v rfl (o_lss rfl rfl) ?_
 refine gl_nil ?_
 refine ge_then ?_
 refine g_seq ?_
 refine g_cond rfl (fun hc1 => ?_) (fun hc1 => ?_)
 ·
  first | replace hc1 := of_decide_eq_true hc1 | replace hc1 := lt_f hc1 | replace hc1 := le_f hc1 | replace hc1 := dec_f hc1 | replace hc1 := nlt_t hc1 | replace hc1 := nle_t hc1 | replace hc1 := ndec_t hc1 | replace hc1 := ndec_f hc1 | replace hc1 := nn_t hc1 | replace hc1 := nn_f hc1 | skip
  refine g_skip ?_
  refine ge_then ?_
  refine g_seq ?_
  refine g_block ?_
  refine g_seq ?_
  refine g_region ?_
  refine gl_v rfl (o_move rfl) ?_
  refine gl_v rfl (o_assign rfl) ?_
  refine gl_nil ?_
  refine ge_then ?_
  refine g_seq ?_
  refine g_region ?_
  refine gl_v rfl (o_move rfl) ?_
  refine gl_nil ?_
  refine ge_then ?_
  refine g_block ?_
  refine g_loop (ι := Nat) (fun s => s ≤ 8 ∧ allGo go (offs ss (8 * l + s))) (fun s => [(11, I64 s), (4, I64 l), (8, I64 l), (0, ptr p 0), (1, .func (.func g) #[] cap.toArray)]) (fun s => wcel p now seq ss :: wfam ss :: Inv (offs ss (8 * l + s)) :: R) (fun s => 8 - s) 0 (⟨Nat.zero_le _, hgo⟩) (Keep.cons rfl (Keep.cons rfl (Keep.cons rfl (Keep.cons rfl (Keep.cons rfl (Keep.nil)))))) (To.sat (by repeat (first | exact .nil | exact .done .refl | (apply To.cons; · (repeat (first | exact .head | apply Sel.tail))) | exact .done (by repeat (first | exact .refl | apply Drop.skip))))) ?_
  rintro s ⟨hs8, hgo2⟩
  refine g_seq ?_
  refine g_region ?_
  refine gl_v rfl (o_lss rfl rfl) ?_
  refine gl_nil ?_
  refine ge_then ?_
  refine g_seq ?_
  refine g_cond rfl (fun hc2 => ?_) (fun hc2 => ?_)
  ·
   first | replace hc2 := of_decide_eq_true hc2 | replace hc2 := lt_f hc2 | replace hc2 := le_f hc2 | replace hc2 := dec_f hc2 | replace hc2 := nlt_t hc2 | replace hc2 := nle_t hc2 | replace hc2 := ndec_t hc2 | replace hc2 := ndec_f hc2 | replace hc2 := nn_t hc2 | replace hc2 := nn_f hc2 | skip
   refine g_skip ?_
   refine ge_then ?_
   refine g_seq ?_
   refine g_block ?_
   refine g_seq ?_
   refine g_region ?_
   refine gl_v rfl (o_move rfl) ?_
   refine gl_v rfl (o_assign rfl) ?_
   refine gl_nil ?_
   refine ge_then ?_
   refine g_seq ?_
   obtain ⟨x, hx⟩ : ∃ x, ss[8 * l + s]? = some x := ⟨_, List.getElem?_eq_getElem (by omega)⟩
   refine g_region ?_
   refine gl_v rfl (o_move rfl) ?_
   refine gl_v rfl (o_move rfl) ?_
   refine gl_v rfl (o_move rfl) ?_
   refine gl_v rfl (o_nil rfl) ?_
   first | refine gl_v rfl (o_fldS rfl) ?_ | refine gl_v rfl (o_fld rfl) ?_
   refine gl_v rfl (o_idxA rfl rfl (by omega)) ?_
   refine gl_v rfl (o_idxA rfl rfl (by omega)) ?_
   refine gl_v rfl (o_load rfl (wget hx)) ?_
   haveI : InF (ss.map so) (.slice x.a x.l.length x.c) x.l.length (x.l.flatMap te) := ⟨_, _, _, map_at' hx⟩
   refine gl_v rfl (o_lenL rfl) ?_
   refine gl_v rfl (o_move rfl) ?_
   refine gl_nil ?_
   refine ge_then ?_
   refine g_block ?_
   refine g_loop (ι := Nat) (fun i => i ≤ x.l.length ∧ allGo go (offs ss (8 * l + s) + i)) (fun i => [(23, I64 i), (22, I64 x.l.length), (21, sv x), (5, I64 s), (4, I64 l), (11, I64 s), (8, I64 l), (0, ptr p 0), (1, .func (.func g) #[] cap.toArray)]) (fun i => wcel p now seq ss :: wfam ss :: Inv (offs ss (8 * l + s) + i) :: R) (fun i => x.l.length - i) 0 (⟨Nat.zero_le _, hgo2⟩) (Keep.cons rfl (Keep.cons rfl (Keep.cons rfl (Keep.cons rfl (Keep.cons rfl (Keep.cons rfl (Keep.cons rfl (Keep.cons rfl (Keep.cons rfl (Keep.nil)))))))))) (To.sat (by repeat (first | exact .nil | exact .done .refl | (apply To.cons; · (repeat (first | exact .head | apply Sel.tail))) | exact .done (by repeat (first | exact .refl | apply Drop.skip))))) ?_
   rintro i ⟨hi, hgo3⟩
   refine g_seq ?_
   refine g_region ?_
   refine gl_v rfl (o_lss rfl rfl) ?_
   refine gl_nil ?_
   refine ge_then ?_
   refine g_seq ?_
   refine g_cond rfl (fun hc3 => ?_) (fun hc3 => ?_)
   ·
    first | replace hc3 := of_decide_eq_true hc3 | replace hc3 := lt_f hc3 | replace hc3 := le_f hc3 | replace hc3 := dec_f hc3 | replace hc3 := nlt_t hc3 | replace hc3 := nle_t hc3 | replace hc3 := ndec_t hc3 | replace hc3 := ndec_f hc3 | replace hc3 := nn_t hc3 | replace hc3 := nn_f hc3 | skip
    obtain ⟨t, ht⟩ : ∃ t, x.l[i]? = some t := ⟨_, List.getElem?_eq_getElem (by omega)⟩
    refine g_skip ?_
    refine ge_then ?_
    refine g_seq ?_
    refine g_block ?_
    refine g_seq ?_
    refine g_region ?_
    refine gl_v rfl (o_move rfl) ?_
    refine gl_v rfl (o_idxS rfl rfl (by omega)) ?_
    refine gl_v rfl (o_loadSA rfl (tall ht) rfl) ?_
    refine gl_n rfl (o_alloc) ?_
    rintro _ _ ⟨b7, rfl, rfl⟩
    refine gl_v rfl (o_assign rfl) ?_
    first | refine gl_u (o_storeSA rfl rfl rfl rfl (by simp; omega) (by simp)) ?_ | refine gl_u (o_storeA rfl rfl rfl rfl rfl) ?_
    refine gl_nil ?_
    refine ge_then ?_
    refine g_seq ?_
    refine g_region ?_
    refine gl_v rfl (o_move rfl) ?_
    refine gl_v rfl (o_move rfl) ?_
    refine gl_v rfl (o_move rfl) ?_
    refine gl_v rfl (o_move rfl) ?_
    refine gl_v rfl (o_loadA rfl (vs := te t) rfl rfl) ?_
    refine gl_c rfl (o_callV (first := []) (cap := cap) rfl rfl (hdo l s i x t (by omega) (by omega) hx ht hgo3) (by repeat (first | exact .nil | (apply Part.cons; · (repeat (first | exact .head | apply Sel.tail)))))) ?_
    rintro _ R ⟨_, ⟨rfl, rfl⟩, rfl⟩
    try simp only [List.cons_append, List.nil_append]
    refine gl_v rfl (o_not rfl) ?_
    refine gl_nil ?_
    refine ge_then ?_
    refine g_cond rfl (fun hc4 => ?_) (fun hc4 => ?_)
    ·
     first | replace hc4 := of_decide_eq_true hc4 | replace hc4 := lt_f hc4 | replace hc4 := le_f hc4 | replace hc4 := dec_f hc4 | replace hc4 := nlt_t hc4 | replace hc4 := nle_t hc4 | replace hc4 := ndec_t hc4 | replace hc4 := ndec_f hc4 | replace hc4 := nn_t hc4 | replace hc4 := nn_f hc4 | skip
     have hgk : go (offs ss (8 * l + s) + i) = false := hc4
     refine g_ret ?_
     refine ge_block_ret ?_
     refine ge_then_ret ?_
     refine ge_then_ret ?_
     refine ge_block_ret ?_
     refine ge_block_ret ?_
     refine ge_then_ret ?_
     refine ge_then_ret ?_
     refine ge_block_ret ?_
     refine ge_block_ret ?_
     refine ge_then_ret ?_
     refine ge_then_ret ?_
     refine ge_block_ret ?_
     refine ret0 (.inl rfl) rfl [wcel p now seq ss, wfam ss, Inv (offs ss (8 * l + s) + i + 1)] (⟨rfl, _, .inr ⟨l, s, i, x, t, by omega, by omega, hx, ht, rfl, hgo3, hgk⟩, rfl⟩) (To.sat (by repeat (first | exact .nil | exact .done .refl | (apply To.cons; · (repeat (first | exact .head | apply Sel.tail))) | exact .done (by repeat (first | exact .refl | apply Drop.skip)))))
    ·
     first | replace hc4 := of_decide_eq_true hc4 | replace hc4 := lt_f hc4 | replace hc4 := le_f hc4 | replace hc4 := dec_f hc4 | replace hc4 := nlt_t hc4 | replace hc4 := nle_t hc4 | replace hc4 := ndec_t hc4 | replace hc4 := ndec_f hc4 | replace hc4 := nn_t hc4 | replace hc4 := nn_f hc4 | skip
     have hgk : go (offs ss (8 * l + s) + i) = true := hc4
     refine g_skip ?_
     refine ge_block ?_
     refine ge_then ?_
     refine g_region ?_
     refine gl_v rfl (o_addR ((i + 1 : Nat) : Int) (by have := hb x (List.mem_of_getElem? hx); rw [wr_i64 (by omega)]; omega) rfl rfl) ?_
     refine gl_v rfl (o_move rfl) ?_
     refine gl_nil ?_
     refine ge_round (i + 1) ⟨by omega, hgo3.snoc hgk⟩ (by omega) (Keep.cons rfl (Keep.cons rfl (Keep.cons rfl (Keep.cons rfl (Keep.cons rfl (Keep.cons rfl (Keep.cons rfl (Keep.cons rfl (Keep.cons rfl (Keep.nil)))))))))) (To.sat (by repeat (first | exact .nil | exact .done .refl | (apply To.cons; · (repeat (first | exact .head | apply Sel.tail))) | exact .done (by repeat (first | exact .refl | apply Drop.skip)))))
   ·
    first | replace hc3 := of_decide_eq_true hc3 | replace hc3 := lt_f hc3 | replace hc3 := le_f hc3 | replace hc3 := dec_f hc3 | replace hc3 := nlt_t hc3 | replace hc3 := nle_t hc3 | replace hc3 := ndec_t hc3 | replace hc3 := ndec_f hc3 | replace hc3 := nn_t hc3 | replace hc3 := nn_f hc3 | skip
    refine g_exit ?_
    refine ge_then_exit ?_
    refine ge_then_exit ?_
    refine ge_block_exit ?_
    refine ge_block ?_
    refine ge_then ?_
    refine g_region ?_
    refine gl_v rfl (o_addR ((s + 1 : Nat) : Int) (by rw [wr_i64 (by omega)]; omega) rfl rfl) ?_
    refine gl_v rfl (o_move rfl) ?_
    refine gl_nil ?_
    obtain rfl : i = x.l.length := by omega
    rw [← offs_succ hx] at hgo3 ⊢
    refine ge_round (s + 1) ⟨by omega, hgo3⟩ (by omega) (Keep.cons rfl (Keep.cons rfl (Keep.cons rfl (Keep.cons rfl (Keep.cons rfl (Keep.nil)))))) (To.sat (by repeat (first | exact .nil | exact .done .refl | (apply To.cons; · (repeat (first | exact .head | apply Sel.tail))) | exact .done (by repeat (first | exact .refl | apply Drop.skip)))))
  ·
   first | replace hc2 := of_decide_eq_true hc2 | replace hc2 := lt_f hc2 | replace hc2 := le_f hc2 | replace hc2 := dec_f hc2 | replace hc2 := nlt_t hc2 | replace hc2 := nle_t hc2 | replace hc2 := ndec_t hc2 | replace hc2 := ndec_f hc2 | replace hc2 := nn_t hc2 | replace hc2 := nn_f hc2 | skip
   refine g_exit ?_
   refine ge_then_exit ?_
   refine ge_then_exit ?_
   refine ge_block_exit ?_
   refine ge_block ?_
   refine ge_then ?_
   refine g_region ?_
   refine gl_v rfl (o_addR ((l + 1 : Nat) : Int) (by rw [wr_i64 (by omega)]; omega) rfl rfl) ?_
   refine gl_v rfl (o_move rfl) ?_
   refine gl_nil ?_
   obtain rfl : s = 8 := by omega
   rw [show 8 * l + 8 = 8 * (l + 1) by omega] at hgo2 ⊢
   refine ge_round (l + 1) ⟨by omega, hgo2⟩ (by omega) (Keep.cons rfl (Keep.cons rfl (Keep.cons rfl (Keep.nil)))) (To.sat (by repeat (first | exact .nil | exact .done .refl | (apply To.cons; · (repeat (first | exact .head | apply Sel.tail))) | exact .done (by repeat (first | exact .refl | apply Drop.skip)))))
 ·
  first | replace hc1 := of_decide_eq_true hc1 | replace hc1 := lt_f hc1 | replace hc1 := le_f hc1 | replace hc1 := dec_f hc1 | replace hc1 := nlt_t hc1 | replace hc1 := nle_t hc1 | replace hc1 := ndec_t hc1 | replace hc1 := ndec_f hc1 | replace hc1 := nn_t hc1 | replace hc1 := nn_f hc1 | skip
  refine g_exit ?_
  refine ge_then_exit ?_
  refine ge_then_exit ?_
  refine ge_block_exit ?_
  refine ret0 (.inr rfl) rfl [wcel p now seq ss, wfam ss, Inv (offs ss 32)] (⟨rfl, _, .inl ⟨rfl, by rw [show l = 4 by omega] at hgo; exact hgo⟩, rfl⟩) (by rw [show l = 4 by omega]; exact (To.sat (by repeat (first | exact .nil | exact .done .refl | (apply To.cons; · (repeat (first | exact .head | apply Sel.tail))) | exact .done (by repeat (first | exact .refl | apply Drop.skip))))))

/-- what find's variables hold -/
def fcs (b4 b5 b6 b7 b8 b9 : Nat) (id : Int) : Option (Nat × Nat × Nat × Tm) → List Assn
  | none => [cel b4 22 [U64 id], cel b5 3 [I64 0], cel b6 3 [I64 0], cel b7 3 [I64 0], cel b8 131 [U64 0, I64 0, I64 0], cel b9 4 [.bool false]]
  | some (l, s, i, t) => [cel b4 22 [U64 id], cel b5 3 [I64 l], cel b6 3 [I64 s], cel b7 3 [I64 i], cel b8 131 (te t), cel b9 4 [.bool true]]
def goF (ss : List Sl) (id : Int) (k : Nat) : Bool := match (ss.flatMap (·.l))[k]? with
  | some t => !decide (t.id = id)
  | none => true
def FI (ss : List Sl) (id : Int) (k : Nat) : Option (Nat × Nat × Nat × Tm) → Prop
  | none => allGo (goF ss id) k
  | some (l, s, i, t) => ¬ allGo (goF ss id) k ∧ l < 4 ∧ s < 8 ∧ (∃ x, ss[8 * l + s]? = some x ∧ x.l[i]? = some t) ∧ t.id = id
def fInv (ss : List Sl) (id : Int) (b4 b5 b6 b7 b8 b9 : Nat) (k : Nat) : Assn := exA (FI ss id k) (fcs b4 b5 b6 b7 b8 b9 id)
theorem goF_at {ss : List Sl} {id : Int} {j i : Nat} {x : Sl} {t : Tm} (h : ss[j]? = some x) (ht : x.l[i]? = some t) : goF ss id (offs ss j + i) = !decide (t.id = id) := by unfold goF; rw [flat_at h ht]
theorem goF_all {ss : List Sl} {id : Int} (hlen : ss.length = 32) (h : allGo (goF ss id) (offs ss 32)) : ∀ t, t ∈ ss.flatMap (·.l) → t.id ≠ id := fun t ht e => by
  obtain ⟨k, hk⟩ := List.getElem?_of_mem ht
  have h1 := h k (by rw [offs_all hlen]; exact (List.getElem?_eq_some_iff.1 hk).1)
  unfold goF at h1; rw [hk] at h1; simp [e] at h1
set_option maxRecDepth 8000 in
theorem find1_spec (l s i : Nat) (t : Tm) (id : Int) (b4 b5 b6 b7 b8 b9 : Nat) :
    FnS Tryz.prog 112 [I64 l, I64 s, I64 i, .agg (te t).toArray, ptr b4 0, ptr b5 0, ptr b6 0, ptr b7 0, ptr b8 0, ptr b9 0] (fcs b4 b5 b6 b7 b8 b9 id none) (fun u Bs => u = .bool (!decide (t.id = id)) ∧ Bs = fcs b4 b5 b6 b7 b8 b9 id (if t.id = id then some (l, s, i, t) else none)) := by
 refine fn_body Tryz.func112 rfl rfl rfl ?_
 intro W0 R
 simp only [List.zipIdx_cons, List.zipIdx_nil, List.map_cons, List.map_nil, Nat.zero_add, Nat.reduceAdd, List.cons_append, List.nil_append]
 simp only [fcs, List.cons_append, List.nil_append]
 refine g_seq ?_
 refine g_region ?_
 refine gl_n rfl (o_boxA rfl) ?_
 rintro _ _ ⟨b13, rfl, rfl⟩
 refine gl_v rfl (o_assign rfl) ?_
 refine gl_nil ?_
 refine ge_then ?_
 refine g_seq ?_
 refine g_seq ?_
 refine g_region ?_
 first | refine gl_v rfl (o_fldS rfl) ?_ | refine gl_v rfl (o_fld rfl) ?_
 refine gl_v rfl (o_load rfl (l := te t) (v := U64 t.id) rfl) ?_
 first | refine gl_v rfl (o_load rfl rfl) ?_ | refine gl_v rfl (o_loadS rfl rfl) ?_ | refine gl_v rfl (o_loadC rfl) ?_
 refine gl_v rfl (o_eql rfl rfl) ?_
 refine gl_nil ?_
 refine ge_then ?_
 refine g_cond rfl (fun hc1 => ?_) (fun hc1 => ?_)
 ·
  first | replace hc1 := of_decide_eq_true hc1 | replace hc1 := lt_f hc1 | replace hc1 := le_f hc1 | replace hc1 := dec_f hc1 | replace hc1 := nlt_t hc1 | replace hc1 := nle_t hc1 | replace hc1 := ndec_t hc1 | replace hc1 := ndec_f hc1 | replace hc1 := nn_t hc1 | replace hc1 := nn_f hc1 | skip
  refine g_draw [4, 5, 6, 7, 8] [4, 5, 6] [(0, .loc), (1, .stab), (2, .stab), (3, .stab), (4, .eff), (5, .eff), (6, .eff), (7, .eff), (8, .eff)] [cel b13 131 (te t)] mixed (by kernel_rfl) ?_
  refine go_v rfl .none rfl (o_move rfl) ?_
  refine go_vs rfl .none rfl (o_move rfl) (To.sat (by repeat (first | exact .nil | exact .done .refl | (apply To.cons; · (repeat (first | exact .head | apply Sel.tail))) | exact .done (by repeat (first | exact .refl | apply Drop.skip))))) ?_
  refine go_vs rfl .none rfl (o_move rfl) (To.sat (by repeat (first | exact .nil | exact .done .refl | (apply To.cons; · (repeat (first | exact .head | apply Sel.tail))) | exact .done (by repeat (first | exact .refl | apply Drop.skip))))) ?_
  refine go_vs rfl .none rfl (o_loadA rfl (vs := te t) rfl rfl) (To.sat (by repeat (first | exact .nil | exact .done .refl | (apply To.cons; · (repeat (first | exact .head | apply Sel.tail))) | exact .done (by repeat (first | exact .refl | apply Drop.skip))))) ?_
  first | refine go_u rfl .none (o_store rfl rfl rfl rfl) (fun _ => (To.sat (by repeat (first | exact .nil | exact .done .refl | (apply To.cons; · (repeat (first | exact .head | apply Sel.tail))) | exact .done (by repeat (first | exact .refl | apply Drop.skip)))))) ?_ | refine go_u rfl .none (o_storeS rfl rfl rfl (by first | assumption | omega | simp)) (fun _ => (To.sat (by repeat (first | exact .nil | exact .done .refl | (apply To.cons; · (repeat (first | exact .head | apply Sel.tail))) | exact .done (by repeat (first | exact .refl | apply Drop.skip)))))) ?_
  first | refine go_u rfl .none (o_store rfl rfl rfl rfl) (fun _ => (To.sat (by repeat (first | exact .nil | exact .done .refl | (apply To.cons; · (repeat (first | exact .head | apply Sel.tail))) | exact .done (by repeat (first | exact .refl | apply Drop.skip)))))) ?_ | refine go_u rfl .none (o_storeS rfl rfl rfl (by first | assumption | omega | simp)) (fun _ => (To.sat (by repeat (first | exact .nil | exact .done .refl | (apply To.cons; · (repeat (first | exact .head | apply Sel.tail))) | exact .done (by repeat (first | exact .refl | apply Drop.skip)))))) ?_
  first | refine go_u rfl .none (o_store rfl rfl rfl rfl) (fun _ => (To.sat (by repeat (first | exact .nil | exact .done .refl | (apply To.cons; · (repeat (first | exact .head | apply Sel.tail))) | exact .done (by repeat (first | exact .refl | apply Drop.skip)))))) ?_ | refine go_u rfl .none (o_storeS rfl rfl rfl (by first | assumption | omega | simp)) (fun _ => (To.sat (by repeat (first | exact .nil | exact .done .refl | (apply To.cons; · (repeat (first | exact .head | apply Sel.tail))) | exact .done (by repeat (first | exact .refl | apply Drop.skip)))))) ?_
  first | refine go_u rfl .none (o_storeSA rfl rfl rfl rfl (by simp; omega) (by simp)) (fun hG => absurd hG (by decide)) ?_ | refine go_u rfl .none (o_storeA rfl rfl rfl rfl rfl) (fun hG => absurd hG (by decide)) ?_
  first | refine go_u rfl .none (o_store rfl rfl rfl rfl) (fun hG => absurd hG (by decide)) ?_ | refine go_u rfl .none (o_storeS rfl rfl rfl (by first | assumption | omega | simp)) (fun hG => absurd hG (by decide)) ?_
  refine go_nil ?_
  refine ge_then ?_
  refine g_seq ?_
  refine g_region ?_
  first | refine gl_v rfl (o_load rfl rfl) ?_ | refine gl_v rfl (o_loadS rfl rfl) ?_ | refine gl_v rfl (o_loadC rfl) ?_
  refine gl_v rfl (o_not rfl) ?_
  refine gl_v rfl (o_assign rfl) ?_
  refine gl_nil ?_
  refine ge_then ?_
  refine g_ret ?_
  refine ret1 (.inl rfl) rfl rfl _ (⟨by simp [hc1], by rw [if_pos hc1] <;> rfl⟩) (To.sat (by repeat (first | exact .nil | exact .done .refl | (apply To.cons; · (repeat (first | exact .head | apply Sel.tail))) | exact .done (by repeat (first | exact .refl | apply Drop.skip)))))
 ·
  first | replace hc1 := of_decide_eq_true hc1 | replace hc1 := lt_f hc1 | replace hc1 := le_f hc1 | replace hc1 := dec_f hc1 | replace hc1 := nlt_t hc1 | replace hc1 := nle_t hc1 | replace hc1 := ndec_t hc1 | replace hc1 := ndec_f hc1 | replace hc1 := nn_t hc1 | replace hc1 := nn_f hc1 | skip
  refine g_skip ?_
  refine ge_then ?_
  refine g_seq ?_
  refine g_region ?_
  first | refine gl_v rfl (o_load rfl rfl) ?_ | refine gl_v rfl (o_loadS rfl rfl) ?_ | refine gl_v rfl (o_loadC rfl) ?_
  refine gl_v rfl (o_not rfl) ?_
  refine gl_v rfl (o_assign rfl) ?_
  refine gl_nil ?_
  refine ge_then ?_
  refine g_ret ?_
  refine ret1 (.inl rfl) rfl rfl _ (⟨by simp [hc1], by rw [if_neg hc1] <;> rfl⟩) (To.sat (by repeat (first | exact .nil | exact .done .refl | (apply To.cons; · (repeat (first | exact .head | apply Sel.tail))) | exact .done (by repeat (first | exact .refl | apply Drop.skip)))))

theorem find_do (ss : List Sl) (id : Int) (b4 b5 b6 b7 b8 b9 : Nat) (l s i : Nat) (x : Sl) (t : Tm) (hl : l < 4) (hs : s < 8) (hx : ss[8 * l + s]? = some x) (ht : x.l[i]? = some t) (hgo : allGo (goF ss id) (offs ss (8 * l + s) + i)) :
    FnS Tryz.prog 112 ([I64 l, I64 s, I64 i, .agg (te t).toArray] ++ [ptr b4 0, ptr b5 0, ptr b6 0, ptr b7 0, ptr b8 0, ptr b9 0]) [fInv ss id b4 b5 b6 b7 b8 b9 (offs ss (8 * l + s) + i)] (fun u Bs => u = .bool (goF ss id (offs ss (8 * l + s) + i)) ∧ Bs = [fInv ss id b4 b5 b6 b7 b8 b9 (offs ss (8 * l + s) + i + 1)]) :=
  fns_open fun o ho => by
    cases o with
    | some q => exact absurd hgo ho.1
    | none =>
      refine (find1_spec l s i t id b4 b5 b6 b7 b8 b9).wk fun u Bs ⟨hu, hB⟩ => ⟨_, ⟨by rw [hu, goF_at hx ht], rfl⟩, ?_⟩
      subst hB
      refine ex_in (if t.id = id then some (l, s, i, t) else none) ?_ (fun h s => s)
      by_cases e : t.id = id
      · rw [if_pos e]; exact ⟨fun h => by have := h (offs ss (8 * l + s) + i) (by omega); rw [goF_at hx ht] at this; simp [e] at this, hl, hs, ⟨x, hx, ht⟩, e⟩
      · rw [if_neg e]; exact hgo.snoc (by rw [goF_at hx ht]; simp [e])
set_option maxRecDepth 8000 in
theorem find_spec (p now seq : Nat) (ss : List Sl) (id : Int) (hlen : ss.length = 32) (hb : ∀ x ∈ ss, x.l.length ≤ 1000) :
    FnS Tryz.prog 102 [ptr p 0, U64 id] [wcel p now seq ss, wfam ss] (fun u Bs => ((∃ (l s i : Nat) (x : Sl) (t : Tm), l < 4 ∧ s < 8 ∧ ss[8 * l + s]? = some x ∧ x.l[i]? = some t ∧ t.id = id ∧ u = .tuple #[I64 l, I64 s, I64 i, .agg (te t).toArray, .bool true]) ∨ ((∀ t, t ∈ ss.flatMap (·.l) → t.id ≠ id) ∧ u = .tuple #[I64 0, I64 0, I64 0, .agg [U64 0, I64 0, I64 0].toArray, .bool false])) ∧ Bs = [wcel p now seq ss, wfam ss]) := by
 refine fn_body Tryz.func102 rfl rfl rfl ?_
 intro W0 R
 simp only [List.zipIdx_cons, List.zipIdx_nil, List.map_cons, List.map_nil, Nat.zero_add, Nat.reduceAdd, List.cons_append, List.nil_append]
 refine g_seq ?_
 refine g_region ?_
 refine gl_n rfl (o_box rfl rfl) ?_
 rintro _ _ ⟨b3, rfl, rfl⟩
 refine gl_n rfl (o_alloc) ?_
 rintro _ _ ⟨b4, rfl, rfl⟩
 refine gl_n rfl (o_alloc) ?_
 rintro _ _ ⟨b5, rfl, rfl⟩
 refine gl_n rfl (o_alloc) ?_
 rintro _ _ ⟨b6, rfl, rfl⟩
 refine gl_n rfl (o_alloc) ?_
 rintro _ _ ⟨b7, rfl, rfl⟩
 refine gl_n rfl (o_alloc) ?_
 rintro _ _ ⟨b8, rfl, rfl⟩
 refine gl_nil ?_
 refine ge_then ?_
 refine g_seq ?_
 refine g_imp (ex_close (φ := FI ss id 0) (l := fcs b3 b4 b5 b6 b7 b8 id) (R := wcel p now seq ss :: wfam ss :: R) none (fun j hj => absurd hj (Nat.not_lt_zero j)) (by simp only [fcs, List.cons_append, List.nil_append]; exact (To.sat (by repeat (first | exact .nil | exact .done .refl | (apply To.cons; · (repeat (first | exact .head | apply Sel.tail))) | exact .done (by repeat (first | exact .refl | apply Drop.skip))))))) ?_
 rw [show exA (FI ss id 0) (fcs b3 b4 b5 b6 b7 b8 id) = fInv ss id b3 b4 b5 b6 b7 b8 0 from rfl]
 refine g_region ?_
 refine gl_v rfl (o_move rfl) ?_
 refine gl_v rfl (o_func (xs := []) (ys := [.tmp 3, .tmp 4, .tmp 5, .tmp 6, .tmp 7, .tmp 8]) rfl rfl) ?_
 refine gl_c rfl (o_call rfl (each_spec (g := 112) [ptr b3 0, ptr b4 0, ptr b5 0, ptr b6 0, ptr b7 0, ptr b8 0] (fInv ss id b3 b4 b5 b6 b7 b8) (goF ss id) p now seq ss hlen hb (find_do ss id b3 b4 b5 b6 b7 b8)) (by repeat (first | exact .nil | (apply Part.cons; · (repeat (first | exact .head | apply Sel.tail)))))) ?_
 rintro _ R ⟨_, ⟨rfl, k, hk, rfl⟩, rfl⟩
 try simp only [List.cons_append, List.nil_append]
 refine gl_nil ?_
 refine ge_then ?_
 refine g_ret ?_
 refine ge_open (φ := FI ss id k) (l := fcs b3 b4 b5 b6 b7 b8 id) (by repeat (first | exact .head | apply Sel.tail)) ?_
 rintro st hst
 rcases hk with ⟨rfl, hk⟩ | ⟨l, s, i, x, t, hl4, hs8, hx, ht, rfl, hk1, hk2⟩
 · cases st with
   | none => simp only [fcs, List.cons_append, List.nil_append]; exact ret5 (.inl rfl) rfl rfl rfl rfl rfl rfl rfl [wcel p now seq ss, wfam ss] ⟨.inr ⟨goF_all hlen hk, rfl⟩, rfl⟩ (To.sat (by repeat (first | exact .nil | exact .done .refl | (apply To.cons; · (repeat (first | exact .head | apply Sel.tail))) | exact .done (by repeat (first | exact .refl | apply Drop.skip)))))
   | some q => exact absurd hk hst.1
 · cases st with
   | none => have := hst (offs ss (8 * l + s) + i) (by omega); rw [hk2] at this; cases this
   | some q =>
     obtain ⟨l', s', i', t'⟩ := q
     obtain ⟨_, hl', hs', ⟨x', hx', ht'⟩, hid⟩ := hst
     simp only [fcs, List.cons_append, List.nil_append]
     exact ret5 (.inl rfl) rfl rfl rfl rfl rfl rfl rfl [wcel p now seq ss, wfam ss] ⟨.inl ⟨l', s', i', x', t', hl', hs', hx', ht', hid, rfl⟩, rfl⟩ (To.sat (by repeat (first | exact .nil | exact .done .refl | (apply To.cons; · (repeat (first | exact .head | apply Sel.tail))) | exact .done (by repeat (first | exact .refl | apply Drop.skip)))))

/-- timers whose numbers are small enough to be taken from one another -/
abbrev TmB : Type := { t : Tm // t.seq < 4611686018427387904 }
instance : Inhabited TmB := ⟨⟨⟨0, 0, 0⟩, by decide⟩⟩
def teB (x : TmB) : List Value := te x.1
def cfB (x y : TmB) : Int := (x.1.seq : Int) - y.1.seq
theorem cfB_swo : Go.Sort.SWO (Go.Proofs.ltOf cfB) where
  irrefl x := decide_eq_false (by unfold cfB; omega)
  trans x y z h1 h2 := by
    have h1 := of_decide_eq_true h1; have h2 := of_decide_eq_true h2
    refine decide_eq_true ?_
    unfold cfB at *; omega
  ntrans x y z h1 h2 := by
    have h1 := of_decide_eq_false h1; have h2 := of_decide_eq_false h2
    refine decide_eq_false ?_
    unfold cfB at *; omega
theorem cfB_calls (x y : TmB) (W : World) : Calls Tryz.prog 94 #[.agg (teB x).toArray, .agg (teB y).toArray] W fun e w' => e = .returned (.int .i64 (cfB x y)) ∧ ∃ q os', w' = Go.Sort.grow (W.drewN q) os' := by
  obtain ⟨⟨i1, d1, s1⟩, h1⟩ := x
  obtain ⟨⟨i2, d2, s2⟩, h2⟩ := y
  have hw : IntKind.i64.wrap ((s1 : Int) - (s2 : Int)) = (s1 : Int) - s2 := wr_i64 (by simp only at h1 h2; omega)
  simp only [teB, te, cfB]
  generalize (s1 : Int) = p at *
  generalize (s2 : Int) = q at *
  generalize (d1 : Int) = d1' at *
  generalize (d2 : Int) = d2' at *
  go_enter Tryz.func94, Tryz.ntmps94
  go_wp2
  go_ret
  exact ⟨by first | rfl | rw [hw], 0, _, by rw [Go.Sort.alloc_eq_grow, Go.Sort.alloc_eq_grow, Go.Sort.grow_grow]; rfl⟩
theorem sort_spec (a : Option Addr) (c : Nat) (l m : List Tm) (hp : l.Perm m) (hs : m.Pairwise (fun a b => a.seq < b.seq)) (hq : ∀ t ∈ m, t.seq < 4611686018427387904) (hb : l.length ≤ 1000) :
    FnS Tryz.prog 93 [.slice a l.length c, .func (.func 94) #[] #[]] [so ⟨a, c, l⟩] (fun u Bs => u = .tuple #[] ∧ Bs = [so ⟨a, c, m⟩]) := by
  have hq' : ∀ t ∈ l, t.seq < 4611686018427387904 := fun t ht => hq t (hp.subset ht)
  obtain ⟨L, hL⟩ : ∃ L : List TmB, L.map (·.1) = l := ⟨l.pmap Subtype.mk hq', by simp [List.map_pmap]⟩
  have hlen : L.length = l.length := by rw [← hL, List.length_map]
  have hfl : L.flatMap teB = l.flatMap te := by rw [← hL, List.flatMap_map]; rfl
  have eg : ∀ args w, (callFunc 94 args).run Tryz.prog w = .ok (.enter 94 args) w := enters_of Tryz.func94 (by kernel_rfl) rfl
  have h := sort_own (P := Tryz.prog) Go.Proofs.Tryz.sortTm 3 (by decide) (fun w => rA1 Tryz.underlying131 rfl w) (fun w => (by obtain ⟨i, h1, h2⟩ := (inferInstance : TAgg Tryz.prog 131 3).size; rw [← h2]; exact rS h1 w)) teB (fun _ => rfl) (fun x v hv => by simp [teB, te] at hv; rcases hv with rfl | rfl | rfl <;> rfl) cfB cfB_swo 94 eg cfB_calls (v := .slice a l.length c) (e := 131) L (by omega)
  rw [hlen, hfl] at h
  refine FnS.mono h fun u Bs ⟨hu, l', hp', hs', hB⟩ => ⟨hu, ?_⟩
  have e1 : l'.map (·.1) = m := by
    refine sorted_one (((hp'.map (·.1)).trans (List.Perm.of_eq hL)).trans hp) ?_ hs
    rw [List.pairwise_map]
    refine hs'.imp fun {a b} hab => ?_
    have hab := of_decide_eq_false hab
    unfold cfB at hab; omega
  rw [hB, ← e1, show l.length = (l'.map (·.1)).length by rw [List.length_map, hp'.length_eq, hlen]]
  simp only [so]
  rw [List.flatMap_map]; rfl
set_option maxRecDepth 8000 in
theorem ids_spec (a : Option Addr) (c : Nat) (l m : List Tm) (hp : l.Perm m) (hs : m.Pairwise (fun a b => a.seq < b.seq)) (hq : ∀ t ∈ m, t.seq < 4611686018427387904) (hb : l.length ≤ 1000) :
    FnS Tryz.prog 74 [.slice a l.length c] [so ⟨a, c, l⟩] (fun u Bs => ∃ a' c', u = .slice a' m.length c' ∧ Bs = [own (.slice a' m.length c') 22 1 m.length (m.map fun t => U64 t.id)]) := by
 refine fn_body Tryz.func74 rfl rfl rfl ?_
 intro W0 R
 simp only [List.zipIdx_cons, List.zipIdx_nil, List.map_cons, List.map_nil, Nat.zero_add, Nat.reduceAdd, List.cons_append, List.nil_append]
 have hml : l.length = m.length := hp.length_eq
 refine g_seq ?_
 refine g_region ?_
 refine gl_v rfl (o_assign rfl) ?_
 refine gl_nil ?_
 refine ge_then ?_
 refine g_seq ?_
 refine g_region ?_
 refine gl_v rfl (o_move rfl) ?_
 refine gl_c rfl (o_call rfl (sort_spec a c l m hp hs hq hb) (by repeat (first | exact .nil | (apply Part.cons; · (repeat (first | exact .head | apply Sel.tail)))))) ?_
 rintro _ R ⟨_, ⟨rfl, rfl⟩, rfl⟩
 try simp only [List.cons_append, List.nil_append]
 refine gl_nil ?_
 refine ge_then ?_
 refine g_seq ?_
 refine g_region ?_
 refine gl_v rfl (o_assign rfl) ?_
 refine gl_nil ?_
 refine ge_then ?_
 refine g_seq ?_
 refine g_seq ?_
 rw [hml]
 refine g_imp (own_nil0 (e := 22) (sz := 1)) ?_
 refine g_region ?_
 refine gl_v rfl (o_move rfl) ?_
 refine gl_v rfl (o_lenL rfl) ?_
 refine gl_v rfl (o_move rfl) ?_
 refine gl_nil ?_
 refine ge_then ?_
 refine g_block ?_
 refine g_loop (ι := Nat × Option Addr × Nat) (fun x => x.1 ≤ m.length) (fun x => [(10, I64 x.1), (9, I64 m.length), (8, .slice a m.length c), (3, .slice x.2.1 x.1 x.2.2)]) (fun x => own (.slice x.2.1 x.1 x.2.2) 22 1 x.1 ((m.take x.1).map fun t => U64 t.id) :: so ⟨a, c, m⟩ :: R) (fun x => m.length - x.1) (0, none, 0) (Nat.zero_le _) (Keep.cons rfl (Keep.cons rfl (Keep.cons rfl (Keep.cons rfl (Keep.nil))))) (To.sat (by repeat (first | exact .nil | exact .done .refl | (apply To.cons; · (repeat (first | exact .head | apply Sel.tail))) | exact .done (by repeat (first | exact .refl | apply Drop.skip))))) ?_
 rintro ⟨i, a', c'⟩ hi
 replace hi : i ≤ m.length := hi
 dsimp only
 refine g_seq ?_
 refine g_region ?_
 refine gl_v rfl (o_lss rfl rfl) ?_
 refine gl_nil ?_
 refine ge_then ?_
 refine g_seq ?_
 refine g_cond rfl (fun hc1 => ?_) (fun hc1 => ?_)
 ·
  first | replace hc1 := of_decide_eq_true hc1 | replace hc1 := lt_f hc1 | replace hc1 := le_f hc1 | replace hc1 := dec_f hc1 | replace hc1 := nlt_t hc1 | replace hc1 := nle_t hc1 | replace hc1 := ndec_t hc1 | replace hc1 := ndec_f hc1 | replace hc1 := nn_t hc1 | replace hc1 := nn_f hc1 | skip
  obtain ⟨t, ht⟩ : ∃ t, m[i]? = some t := ⟨_, List.getElem?_eq_getElem (by omega)⟩
  refine g_skip ?_
  refine ge_then ?_
  refine g_seq ?_
  refine g_block ?_
  refine g_seq ?_
  refine g_region ?_
  refine gl_v rfl (o_idxS rfl rfl (show i < m.length by omega)) ?_
  refine gl_v rfl (o_loadSA rfl (tall ht) rfl) ?_
  refine gl_n rfl (o_alloc) ?_
  rintro _ _ ⟨b5, rfl, rfl⟩
  first | refine gl_u (o_storeSA rfl rfl rfl rfl (by simp; omega) (by simp)) ?_ | refine gl_u (o_storeA rfl rfl rfl rfl rfl) ?_
  refine gl_nil ?_
  refine ge_then ?_
  refine g_region ?_
  refine gl_v rfl (o_move rfl) ?_
  first | refine gl_v rfl (o_fldS rfl) ?_ | refine gl_v rfl (o_fld rfl) ?_
  refine gl_v rfl (o_load rfl (l := te t) (v := U64 t.id) rfl) ?_
  first | refine gl_n rfl (o_buildS1 rfl rfl rfl) ?_ | refine gl_n rfl (o_buildS1A rfl rfl rfl rfl) ?_ | refine gl_n rfl (o_buildS rfl rfl rfl rfl) ?_
  rintro _ _ ⟨b17, rfl, rfl⟩
  refine gl_n rfl (o_append rfl rfl (by repeat (first | exact .nil | (apply Part.cons; · (repeat (first | exact .head | apply Sel.tail))))) rfl rfl rfl (by omega) (by unfold maxLen; omega)) ?_
  rintro _ _ ⟨a18, c18, rfl, rfl⟩
  refine gl_v rfl (o_assign rfl) ?_
  refine gl_nil ?_
  refine ge_block ?_
  refine ge_then ?_
  refine g_region ?_
  refine gl_v rfl (o_addR ((i + 1 : Nat) : Int) (by rw [wr_i64 (by omega)]; omega) rfl rfl) ?_
  refine gl_v rfl (o_move rfl) ?_
  refine gl_nil ?_
  refine ge_round (i + 1, a18, c18) (show i + 1 ≤ m.length by omega) (show m.length - (i + 1) < m.length - i by omega) (Keep.cons rfl (Keep.cons rfl (Keep.cons rfl (Keep.cons rfl (Keep.nil))))) (by dsimp only; rw [take_snoc ht]; exact (To.sat (by repeat (first | exact .nil | exact .done .refl | (apply To.cons; · (repeat (first | exact .head | apply Sel.tail))) | exact .done (by repeat (first | exact .refl | apply Drop.skip))))))
 ·
  first | replace hc1 := of_decide_eq_true hc1 | replace hc1 := lt_f hc1 | replace hc1 := le_f hc1 | replace hc1 := dec_f hc1 | replace hc1 := nlt_t hc1 | replace hc1 := nle_t hc1 | replace hc1 := ndec_t hc1 | replace hc1 := ndec_f hc1 | replace hc1 := nn_t hc1 | replace hc1 := nn_f hc1 | skip
  refine g_exit ?_
  refine ge_then_exit ?_
  refine ge_then_exit ?_
  refine ge_block_exit ?_
  refine ge_then ?_
  refine g_seq ?_
  refine g_region ?_
  refine gl_v rfl (o_move rfl) ?_
  refine gl_v rfl (o_assign rfl) ?_
  refine gl_nil ?_
  refine ge_then ?_
  refine g_ret ?_
  refine ret1 (.inl rfl) rfl rfl [own (.slice a' m.length c') 22 1 m.length (m.map fun t => U64 t.id)] (⟨a', c', by rw [show i = m.length by omega], rfl⟩) (by rw [show i = m.length by omega, List.take_length]; exact (To.sat (by repeat (first | exact .nil | exact .done .refl | (apply To.cons; · (repeat (first | exact .head | apply Sel.tail))) | exact .done (by repeat (first | exact .refl | apply Drop.skip))))))

/-- what find found, in one form -/
def Fnd (ss : List Sl) (id : Int) (l s i : Nat) (t : Tm) (b : Bool) : Prop :=
  (b = true ∧ l < 4 ∧ s < 8 ∧ (∃ x, ss[8 * l + s]? = some x ∧ x.l[i]? = some t) ∧ t.id = id) ∨ (b = false ∧ l = 0 ∧ s = 0 ∧ i = 0 ∧ t = ⟨0, 0, 0⟩ ∧ ∀ t, t ∈ ss.flatMap (·.l) → t.id ≠ id)
theorem find2 (p now seq : Nat) (ss : List Sl) (id : Int) (hlen : ss.length = 32) (hb : ∀ x ∈ ss, x.l.length ≤ 1000) :
    FnS Tryz.prog 102 [ptr p 0, U64 id] [wcel p now seq ss, wfam ss] (fun u Bs => (∃ (l s i : Nat) (t : Tm) (b : Bool), u = .tuple #[I64 l, I64 s, I64 i, .agg (te t).toArray, .bool b] ∧ Fnd ss id l s i t b) ∧ Bs = [wcel p now seq ss, wfam ss]) :=
  (find_spec p now seq ss id hlen hb).mono fun u Bs ⟨h, hB⟩ => ⟨by
    rcases h with ⟨l, s, i, x, t, h1, h2, h3, h4, h5, h6⟩ | ⟨h1, h2⟩
    · exact ⟨l, s, i, t, true, h6, .inl ⟨rfl, h1, h2, ⟨x, h3, h4⟩, h5⟩⟩
    · exact ⟨0, 0, 0, ⟨0, 0, 0⟩, false, h2, .inr ⟨rfl, rfl, rfl, rfl, rfl, h1⟩⟩, hB⟩
abbrev LiesW (w : Wh) (ss : List Sl) : Prop := Lies (fun t => posn w.now t.due) w.T (ss.map (·.l))
theorem LiesW.hlen {w : Wh} {ss : List Sl} (h : LiesW w ss) : ss.length = 32 := by simpa using h.1
theorem LiesW.hb {w : Wh} {ss : List Sl} (h : LiesW w ss) (hw : WOk w) : ∀ x ∈ ss, x.l.length ≤ 1000 := fun x hx => by
  have := Lies.short h (List.mem_map_of_mem (f := (·.l)) hx); have := hw.len; omega
theorem LiesW.flat {w : Wh} {ss : List Sl} (h : LiesW w ss) : (ss.flatMap (·.l)).Perm w.T := by
  rw [List.flatMap_def]; exact Lies.all h (fun t _ => posn_lt _ _)
theorem LiesW.found {w : Wh} {ss : List Sl} (h : LiesW w ss) (hw : WOk w) {id : Int} {l s i : Nat} {t : Tm} {b : Bool} (hf : Fnd ss id l s i t b) :
    (b = true ∧ w.get id = some t ∧ posn w.now t.due = 8 * l + s ∧ l < 4 ∧ s < 8) ∨ (b = false ∧ w.get id = none ∧ l = 0 ∧ s = 0 ∧ t = ⟨0, 0, 0⟩) := by
  rcases hf with ⟨hb, h1, h2, ⟨x, h3, h4⟩, h5⟩ | ⟨hb, h1, h2, h3, h4, h5⟩
  · obtain ⟨hj, hp⟩ := Lies.at' h (j := 8 * l + s) (l := x.l) (by rw [List.getElem?_map, h3]; rfl)
    have hm := List.mem_filter.1 (hp.subset (List.mem_of_getElem? h4))
    exact .inl ⟨hb, get_some hw hm.1 h5, by simpa using hm.2, h1, h2⟩
  · exact .inr ⟨hb, get_none.2 fun t ht => h5 t (h.flat.symm.subset ht), h1, h2, h4⟩
theorem findW (p : Nat) (w : Wh) (id : Int) (hw : WOk w) :
    FnS Tryz.prog 102 [ptr p 0, U64 id] [wheel p w] (fun u Bs => (∃ (l s i : Nat) (t : Tm) (b : Bool), u = .tuple #[I64 l, I64 s, I64 i, .agg (te t).toArray, .bool b] ∧ ((b = true ∧ w.get id = some t ∧ posn w.now t.due = 8 * l + s ∧ l < 4 ∧ s < 8) ∨ (b = false ∧ w.get id = none ∧ l = 0 ∧ s = 0 ∧ t = ⟨0, 0, 0⟩))) ∧ Bs = [wheel p w]) :=
  fns_open fun ss hL => (find2 p w.now w.seq ss id (LiesW.hlen hL) (LiesW.hb hL hw)).wk fun u Bs ⟨⟨l, s, i, t, b, hu, hf⟩, hB⟩ => ⟨_, ⟨⟨l, s, i, t, b, hu, LiesW.found hL hw hf⟩, rfl⟩, by subst hB; exact ex_in ss hL (fun h s => s)⟩
def whereV (w : Wh) (id : Int) : Value := match w.get id with
  | some t => .tuple #[I64 ((posn w.now t.due / 8 : Nat) : Int), I64 ((posn w.now t.due % 8 : Nat) : Int), .bool true]
  | none => .tuple #[I64 0, I64 0, .bool false]
def dueV (w : Wh) (id : Int) : Value := match w.get id with
  | some t => .tuple #[I64 t.due, .bool true]
  | none => .tuple #[I64 0, .bool false]
set_option maxRecDepth 8000 in
theorem WNew_spec : FnS Tryz.prog 45 [] [] (fun u Bs => ∃ p, u = ptr p 0 ∧ Bs = [wheel p ⟨0, 0, []⟩]) := by
 refine fn_body Tryz.func45 rfl rfl rfl ?_
 intro W0 R
 simp only [List.zipIdx_cons, List.zipIdx_nil, List.map_cons, List.map_nil, Nat.zero_add, Nat.reduceAdd, List.cons_append, List.nil_append]
 refine g_seq ?_
 refine g_region ?_
 refine gl_v rfl (o_assign rfl) ?_
 refine gl_nil ?_
 refine ge_then ?_
 refine g_seq ?_
 refine g_region ?_
 refine gl_v rfl (o_build (xs := []) rfl rfl) ?_
 refine gl_n rfl (o_boxA rfl) ?_
 rintro _ _ ⟨p, rfl, rfl⟩
 refine gl_v rfl (o_assign rfl) ?_
 refine gl_nil ?_
 refine ge_then ?_
 refine g_ret ?_
 refine ret1 (.inl rfl) rfl rfl [wheel p ⟨0, 0, []⟩] (⟨p, rfl, rfl⟩) (wheel_close (List.replicate 32 ⟨none, 0, []⟩) ⟨rfl, fun j hj => by rw [List.map_replicate, List.getD_eq_getElem?_getD, List.getElem?_replicate, if_pos hj]; exact .refl _⟩ (fun h s => Sat.swap (by rw [wfam, List.map_replicate]; exact fam_rep 32 (fun R => own_nil0) h s)))

set_option maxRecDepth 8000 in
theorem Now_spec (p : Nat) (w : Wh) : FnS Tryz.prog 85 [ptr p 0] [wheel p w] (fun u Bs => u = I64 w.now ∧ Bs = [wheel p w]) := by
 refine fn_body Tryz.func85 rfl rfl rfl ?_
 intro W0 R
 simp only [List.zipIdx_cons, List.zipIdx_nil, List.map_cons, List.map_nil, Nat.zero_add, Nat.reduceAdd, List.cons_append, List.nil_append]
 refine g_open (by repeat (first | exact .head | apply Sel.tail)) ?_
 rintro ss hL
 replace hL : LiesW w ss := hL
 have hlen := hL.hlen
 simp only [List.cons_append, List.nil_append]
 refine g_seq ?_
 refine g_region ?_
 refine gl_v rfl (o_assign rfl) ?_
 refine gl_nil ?_
 refine ge_then ?_
 refine g_seq ?_
 refine g_region ?_
 refine gl_v rfl (o_move rfl) ?_
 refine gl_v rfl (o_nil rfl) ?_
 first | refine gl_v rfl (o_fldS rfl) ?_ | refine gl_v rfl (o_fld rfl) ?_
 refine gl_v rfl (o_load rfl (l := wcs w.now w.seq ss) (v := I64 w.now) rfl) ?_
 refine gl_v rfl (o_assign rfl) ?_
 refine gl_nil ?_
 refine ge_then ?_
 refine g_ret ?_
 refine ret1 (.inl rfl) rfl rfl [wheel p w] (⟨rfl, rfl⟩) (wheel_close ss hL (To.sat (by repeat (first | exact .nil | exact .done .refl | (apply To.cons; · (repeat (first | exact .head | apply Sel.tail))) | exact .done (by repeat (first | exact .refl | apply Drop.skip))))))



set_option maxRecDepth 8000 in
theorem len1_spec (l s i k : Nat) (t : Tm) (b : Nat) (hk : k ≤ 100000) : FnS Tryz.prog 113 [I64 l, I64 s, I64 i, .agg (te t).toArray, ptr b 0] [cel b 3 [I64 k]] (fun u Bs => u = .bool true ∧ Bs = [cel b 3 [I64 ((k + 1 : Nat) : Int)]]) := by
 refine fn_body Tryz.func113 rfl rfl rfl ?_
 intro W0 R
 simp only [List.zipIdx_cons, List.zipIdx_nil, List.map_cons, List.map_nil, Nat.zero_add, Nat.reduceAdd, List.cons_append, List.nil_append]
 refine g_seq ?_
 refine g_region ?_
 refine gl_n rfl (o_boxA rfl) ?_
 rintro _ _ ⟨b8, rfl, rfl⟩
 refine gl_v rfl (o_assign rfl) ?_
 refine gl_nil ?_
 refine ge_then ?_
 refine g_seq ?_
 refine g_region ?_
 first | refine gl_v rfl (o_load rfl rfl) ?_ | refine gl_v rfl (o_loadS rfl rfl) ?_ | refine gl_v rfl (o_loadC rfl) ?_
 refine gl_v rfl (o_addR ((k + 1 : Nat) : Int) (by rw [wr_i64 (by omega)]; omega) rfl rfl) ?_
 first | refine gl_u (o_store rfl rfl rfl rfl) ?_ | refine gl_u (o_storeS rfl rfl rfl (by first | assumption | omega | simp)) ?_
 refine gl_nil ?_
 refine ge_then ?_
 refine g_seq ?_
 refine g_region ?_
 refine gl_v rfl (o_assign rfl) ?_
 refine gl_nil ?_
 refine ge_then ?_
 refine g_ret ?_
 refine ret1 (.inl rfl) rfl rfl _ (⟨rfl, rfl⟩) (To.sat (by repeat (first | exact .nil | exact .done .refl | (apply To.cons; · (repeat (first | exact .head | apply Sel.tail))) | exact .done (by repeat (first | exact .refl | apply Drop.skip)))))

set_option maxRecDepth 8000 in
theorem WLen_spec (p : Nat) (w : Wh) (hw : WOk w) : FnS Tryz.prog 103 [ptr p 0] [wheel p w] (fun u Bs => u = I64 w.T.length ∧ Bs = [wheel p w]) := by
 refine fn_body Tryz.func103 rfl rfl rfl ?_
 intro W0 R
 simp only [List.zipIdx_cons, List.zipIdx_nil, List.map_cons, List.map_nil, Nat.zero_add, Nat.reduceAdd, List.cons_append, List.nil_append]
 refine g_open (by repeat (first | exact .head | apply Sel.tail)) ?_
 rintro ss hL
 replace hL : LiesW w ss := hL
 have hlen := hL.hlen
 have hb := hL.hb hw
 simp only [List.cons_append, List.nil_append]
 have hfl := hL.flat.length_eq
 have hT := hw.len
 refine g_seq ?_
 refine g_region ?_
 refine gl_v rfl (o_assign rfl) ?_
 refine gl_nil ?_
 refine ge_then ?_
 refine g_seq ?_
 refine g_region ?_
 refine gl_n rfl (o_alloc) ?_
 rintro _ _ ⟨b3, rfl, rfl⟩
 first | refine gl_u (o_store rfl rfl rfl rfl) ?_ | refine gl_u (o_storeS rfl rfl rfl (by first | assumption | omega | simp)) ?_
 refine gl_nil ?_
 refine ge_then ?_
 refine g_seq ?_
 refine g_region ?_
 refine gl_v rfl (o_move rfl) ?_
 refine gl_v rfl (o_func (xs := []) (ys := [.tmp 3]) rfl rfl) ?_
 refine gl_c rfl (o_call rfl (each_spec (g := 113) [ptr b3 0] (fun k => cel b3 3 [I64 k]) (fun _ => true) p w.now w.seq ss hlen hb (fun l s i x t hl hs hx ht hgo => len1_spec l s i _ t b3 (by have := (List.getElem?_eq_some_iff.1 (flat_at hx ht)).1; omega))) (by repeat (first | exact .nil | (apply Part.cons; · (repeat (first | exact .head | apply Sel.tail)))))) ?_
 rintro _ R ⟨_, ⟨rfl, k, hk, rfl⟩, rfl⟩
 try simp only [List.cons_append, List.nil_append]
 obtain rfl : k = w.T.length := by
   rcases hk with ⟨rfl, _⟩ | ⟨_, _, _, _, _, _, _, _, _, _, _, h⟩
   · rw [offs_all hlen, hfl]
   · cases h
 refine gl_nil ?_
 refine ge_then ?_
 refine g_seq ?_
 refine g_region ?_
 first | refine gl_v rfl (o_load rfl rfl) ?_ | refine gl_v rfl (o_loadS rfl rfl) ?_ | refine gl_v rfl (o_loadC rfl) ?_
 refine gl_v rfl (o_assign rfl) ?_
 refine gl_nil ?_
 refine ge_then ?_
 refine g_ret ?_
 refine ret1 (.inl rfl) rfl rfl [wheel p w] (⟨rfl, rfl⟩) (wheel_close ss hL (To.sat (by repeat (first | exact .nil | exact .done .refl | (apply To.cons; · (repeat (first | exact .head | apply Sel.tail))) | exact .done (by repeat (first | exact .refl | apply Drop.skip))))))

def idInv (ss : List Sl) (b : Nat) (k : Nat) : Assn := exA (ι := Option Addr × Nat) (fun _ => True) (fun x => [cel b 122 [.slice x.1 k x.2], own (.slice x.1 k x.2) 131 3 k (((ss.flatMap (·.l)).take k).flatMap te)])
theorem take_te {m : List Tm} {i : Nat} {t : Tm} (h : m[i]? = some t) : (m.take (i + 1)).flatMap te = (m.take i).flatMap te ++ te t := by
  obtain ⟨hi, e⟩ := List.getElem?_eq_some_iff.1 h
  rw [List.take_succ_eq_append_getElem hi, e, List.flatMap_append]; simp
set_option maxRecDepth 8000 in
theorem idd1_spec (ss : List Sl) (l s i k : Nat) (t : Tm) (b : Nat) (hk : k ≤ 100000) (ht : (ss.flatMap (·.l))[k]? = some t) : FnS Tryz.prog 73 [I64 l, I64 s, I64 i, .agg (te t).toArray, ptr b 0] [idInv ss b k] (fun u Bs => u = .bool true ∧ Bs = [idInv ss b (k + 1)]) := by
 refine fn_body Tryz.func73 rfl rfl rfl ?_
 intro W0 R
 simp only [List.zipIdx_cons, List.zipIdx_nil, List.map_cons, List.map_nil, Nat.zero_add, Nat.reduceAdd, List.cons_append, List.nil_append]
 refine g_open (φ := fun _ => True) (by repeat (first | exact .head | apply Sel.tail)) ?_
 rintro ⟨a, c⟩ -
 simp only [List.cons_append, List.nil_append]
 refine g_seq ?_
 refine g_region ?_
 refine gl_n rfl (o_boxA rfl) ?_
 rintro _ _ ⟨b8, rfl, rfl⟩
 refine gl_v rfl (o_assign rfl) ?_
 refine gl_nil ?_
 refine ge_then ?_
 refine g_seq ?_
 refine g_region ?_
 first | refine gl_v rfl (o_load rfl rfl) ?_ | refine gl_v rfl (o_loadS rfl rfl) ?_ | refine gl_v rfl (o_loadC rfl) ?_
 refine gl_v rfl (o_loadA rfl (vs := te t) rfl rfl) ?_
 first | refine gl_n rfl (o_buildS1 rfl rfl rfl) ?_ | refine gl_n rfl (o_buildS1A rfl rfl rfl rfl) ?_ | refine gl_n rfl (o_buildS rfl rfl rfl rfl) ?_
 rintro _ _ ⟨b12, rfl, rfl⟩
 refine gl_n rfl (o_append rfl rfl (by repeat (first | exact .nil | (apply Part.cons; · (repeat (first | exact .head | apply Sel.tail))))) rfl rfl rfl (by omega) (by unfold maxLen; omega)) ?_
 rintro _ _ ⟨a13, c13, rfl, rfl⟩
 rw [← take_te ht]
 first | refine gl_u (o_store rfl rfl rfl rfl) ?_ | refine gl_u (o_storeS rfl rfl rfl (by first | assumption | omega | simp)) ?_
 refine gl_nil ?_
 refine ge_then ?_
 refine g_seq ?_
 refine g_region ?_
 refine gl_v rfl (o_assign rfl) ?_
 refine gl_nil ?_
 refine ge_then ?_
 refine g_ret ?_
 refine ret1 (.inl rfl) rfl rfl [idInv ss b (k + 1)] (⟨rfl, rfl⟩) (ex_close (a13, c13) trivial (To.sat (by repeat (first | exact .nil | exact .done .refl | (apply To.cons; · (repeat (first | exact .head | apply Sel.tail))) | exact .done (by repeat (first | exact .refl | apply Drop.skip))))))

end Go.Proofs.YtmohikdmdmplaaaGreat.L

