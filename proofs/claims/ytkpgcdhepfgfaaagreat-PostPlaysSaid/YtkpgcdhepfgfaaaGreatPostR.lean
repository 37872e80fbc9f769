/-
  PostPlays: the document's functions. Own work, printed in part by a program of its own.
-/
import Derived.Test.YtkpgcdhepfgfaaaGreatRingNg
import Derived.Test.YtkpgcdhepfgfaaaGreatPostN
import Derived.Test.YtkpgcdhepfgfaaaGreatPostJ
import Derived.Test.YtkpgcdhepfgfaaaGreatFns
set_option linter.unusedSimpArgs false
set_option linter.unusedVariables false
set_option linter.unusedSectionVars false
namespace Go.Proofs.YtkpgcdhepfgfaaaGreat.L
open Go.L Go.L.Ring Go.L.Post
theorem SlR.to {h : Hp} {a : Option Addr} {n c i sz : Nat} {xs : List Value} (s : SlR h (.slice a n c) n xs) (hi : i ≤ n) : SlR h (.slice a i c) i (xs.take (i * sz)) := by
  rcases s with ⟨h1, h2, h3⟩ | ⟨b, off, spot, cap, h1, h2, h3⟩
  · obtain rfl : i = 0 := by omega
    subst h2
    simp only [Value.slice.injEq] at h1
    exact .inl ⟨by simp [h1.1, h1.2.2], by simp, rfl⟩
  · simp only [Value.slice.injEq, true_and] at h1
    obtain ⟨rfl, rfl⟩ := h1
    exact .inr ⟨b, off, spot, c, rfl, fun h0 => h2 (by omega), fun j x hx => h3 j x (by
      rw [List.getElem?_take] at hx
      split at hx
      · exact hx
      · cases hx)⟩
theorem SlR.from' {h : Hp} {a : Option Addr} {n c i sz : Nat} {xs : List Value} (s : SlR h (.slice a n c) n xs) (hx : xs.length = n * sz) (hi : i ≤ n) (hc : n ≤ c) : SlR h (.slice (if c = i then a else a.map (fun x : Addr => x.add (i * sz))) (n - i) (c - i)) (n - i) (xs.drop (i * sz)) := by
  rcases s with ⟨h1, h2, h3⟩ | ⟨b, off, spot, cap, h1, h2, h3⟩
  · simp only [Value.slice.injEq] at h1
    obtain ⟨rfl, _, rfl⟩ := h1
    obtain rfl : i = 0 := by omega
    exact .inl ⟨by simp [h3], by simp [h2], by omega⟩
  · simp only [Value.slice.injEq, true_and] at h1
    obtain ⟨rfl, rfl⟩ := h1
    by_cases e : c = i
    · rw [if_pos e]
      refine .inr ⟨b, off, spot, c - i, rfl, fun h0 => by omega, fun j x hx' => ?_⟩
      rw [List.drop_eq_nil_of_le (by rw [hx]; exact Nat.mul_le_mul_right _ (by omega))] at hx'; simp at hx'
    · rw [if_neg e]
      by_cases e0 : i * sz = 0
      · refine .inr ⟨b, off, spot, c - i, by simp [Addr.add, e0], fun h0 => h2 (by omega), fun j x hx' => h3 j x (by rw [List.getElem?_drop, e0, Nat.zero_add] at hx'; exact hx')⟩
      · rcases Nat.eq_zero_or_pos n with h0 | h0
        · subst h0; obtain rfl : i = 0 := by omega
          simp at e0
        · obtain rfl := h2 h0
          refine .inr ⟨b, off + i * sz, none, c - i, by simp [Addr.add, e0], fun _ => rfl, fun j x hx' => ?_⟩
          rw [List.getElem?_drop] at hx'
          obtain ⟨_, cs, e', fz, g1, g2⟩ := h3 _ x hx'
          exact ⟨rfl, cs, e', fz, g1, by rw [Nat.add_assoc]; exact g2⟩
theorem ret2c {P : Program} {W0 : World} {n : Nat} {sl : Slots} {As R : List Assn} {fn : Func} {post : Value → List Assn → Prop} {e : Exit} (he : e = .ret ∨ e = .normal) {t1 t2 b1 : Nat} {T1 e1 sz : Nat} {v2 : Value} {vs : List Value}
    {u1 : Obj → List Assn} [TAgg P T1 sz] [Owns b1 As (.cells vs.toArray e1 (0, 0)) u1]
    (hf : fn.results = #[.cell t1 T1, .tmp t2]) (h1 : slk sl t1 = some (ptr b1 0)) (h2 : slk sl t2 = some v2) (hl : vs.length = sz)
    (Bs : List Assn) (hp : post (.tuple #[.agg vs.toArray, v2]) Bs) (hA : ∀ h, Sat As h → Sat (Bs ++ R) h) : GE W0 n sl As (FQ P W0 fn post R e) :=
  fq_ret he (fun a w hs s => by
    have r1 := agg_res (P := P) (T := T1) (b := b1) (off := 0) (vs := vs) s (by rw [List.drop_zero, List.take_of_length_le (by omega)]) hl
    simp [results, hf, hs.val _ _ h1, hs.val _ _ h2, asAddr, r1]) Bs hp hA

/-- 'A' lets a log be read -/
def Rd (A : Assn) (a : Option Addr) (c : Nat) (l : List Int) : Prop := (∀ h, A h → SlR h (.slice a l.length c) l.length (l.map U64)) ∧ l.length ≤ c
theorem Rd.inst {A : Assn} {a : Option Addr} {c : Nat} {l : List Int} (h : Rd A a c l) : RdA (.slice a l.length c) A l.length (l.map U64) := ⟨fun x => h.1 _ x⟩
theorem Rd.to {A : Assn} {a : Option Addr} {c i : Nat} {l : List Int} (h : Rd A a c l) (hi : i ≤ l.length) : Rd A a c (l.take i) := by
  have e : (l.take i).length = i := by rw [List.length_take]; omega
  refine ⟨fun k x => ?_, by rw [e]; exact Nat.le_trans hi h.2⟩
  have s := SlR.to (sz := 1) (h.1 k x) hi
  rw [e, List.map_take]; rwa [Nat.mul_one] at s
theorem Rd.from {A : Assn} {a : Option Addr} {c i : Nat} {l : List Int} (h : Rd A a c l) (hi : i ≤ l.length) : Rd A (if c = i then a else a.map (fun x : Addr => x.add (i * 1))) (c - i) (l.drop i) := by
  have e : (l.drop i).length = l.length - i := List.length_drop
  refine ⟨fun k x => ?_, by rw [e]; have := h.2; omega⟩
  have s := SlR.from' (sz := 1) (h.1 k x) (by simp) hi h.2
  rw [e, List.map_drop]; rwa [Nat.mul_one i] at s ⊢
theorem part_stop {f : List Int → Wt} {l : List Int} {k : Nat} {P : Wt × Nat} (h : partG f (l.take k) (l.drop k) = P) (hk : k < l.length) (ho : (f (l.take k)).over = true) : P = (f (l.take k), k) := by
  rw [← h, List.drop_eq_getElem_cons hk, partG, ho, if_pos rfl, List.length_take, Nat.min_eq_left (by omega)]
theorem part_go {f : List Int → Wt} {l : List Int} {k : Nat} {P : Wt × Nat} (h : partG f (l.take k) (l.drop k) = P) (hk : k < l.length) (ho : (f (l.take k)).over = false) : partG f (l.take (k + 1)) (l.drop (k + 1)) = P := by
  rw [← h, List.drop_eq_getElem_cons hk, partG, ho, if_neg (by decide), List.take_succ_eq_append_getElem hk]
theorem part_end {f : List Int → Wt} {l : List Int} {k : Nat} {P : Wt × Nat} (h : partG f (l.take k) (l.drop k) = P) (hk : k = l.length) : P = (f l, l.length) := by
  subst hk; rw [← h, List.take_length, List.drop_length]; rfl
theorem part_le (f : List Int → Wt) : ∀ (r pre : List Int), (partG f pre r).2 ≤ pre.length + r.length
  | [], pre => by rw [partG]; exact Nat.le_refl _
  | x :: r, pre => by
    rw [partG]; split
    · exact Nat.le_add_right _ _
    · have := part_le f r (pre ++ [x]); simp at this ⊢; omega
theorem LI_take {l : List Int} (h : LI l) (k : Nat) : LI (l.take k) := fun x hx => h x (List.mem_of_mem_take hx)
theorem LI_drop {l : List Int} (h : LI l) (k : Nat) : LI (l.drop k) := fun x hx => h x (List.mem_of_mem_drop hx)
theorem lay_a {B : PB} {nt : Bool} {v : Int} {l : List Int} {w : Wt} {us : Nat} (h : partG (nextN (B.rb nt) (B.rn nt) 1 v) [] l = (w, us)) (h1 : w.over = false) : layN B nt v l = w := by unfold layN; rw [h]; simp only [h1]; rfl
theorem lay_b {B : PB} {nt : Bool} {v : Int} {l : List Int} {w : Wt} {us : Nat} (h : partG (nextN (B.rb nt) (B.rn nt) 1 v) [] l = (w, us)) (h1 : w.over = true) (h2 : w.out ≠ 1) : layN B nt v l = wOv w.out 0 0 := by unfold layN; rw [h]; simp only [h1, if_true, if_neg h2]
theorem lay_c {B : PB} {nt : Bool} {v : Int} {l : List Int} {w : Wt} {us : Nat} (h : partG (nextN (B.rb nt) (B.rn nt) 1 v) [] l = (w, us)) (h1 : w.over = true) (h2 : w.out = 1) : layN B nt v l = pairN B.b nt (l.drop us) := by unfold layN; rw [h]; simp only [h1, if_true, h2]
theorem pair_no {b : Nat} {nt : Bool} {s : Int} {r : List Int} (h : rouses nt s = false) : pairN b nt (s :: r) = wOv 1 0 0 := by
  cases r with
  | nil => simp only [pairN, h]; rfl
  | cons x r => simp only [pairN, h]; rfl
theorem note_a {B : PB} {held : Bool} {l : List Int} {w : Wt} {us : Nat} (h : partG (nextN (B.rb true) (B.rn true) 5 0) [] l = (w, us)) (h1 : w.over = false) : noteN B held l = w := by unfold noteN; rw [h]; simp only [h1]; rfl
theorem note_b {B : PB} {l : List Int} {w : Wt} {us : Nat} (h : partG (nextN (B.rb true) (B.rn true) 5 0) [] l = (w, us)) (h1 : w.over = true) (h2 : w.out = 4) : noteN B true l = wOv 4 0 0 := by unfold noteN; rw [h]; simp only [h1, h2, if_true]
theorem note_c {B : PB} {l : List Int} {w : Wt} {us : Nat} (h : partG (nextN (B.rb true) (B.rn true) 5 0) [] l = (w, us)) (h1 : w.over = true) (h2 : w.out = 4) : noteN B false l = mailN B (l.drop us) := by unfold noteN; rw [h]; simp only [h1, h2, if_true]; rfl
theorem note_d {B : PB} {held : Bool} {l : List Int} {w : Wt} {us : Nat} (h : partG (nextN (B.rb true) (B.rn true) 5 0) [] l = (w, us)) (h1 : w.over = true) (h2 : w.out ≠ 4) : noteN B held l = tailN B.b (stOf held) (l.drop us) := by unfold noteN; rw [h]; simp only [h1, if_true, if_neg h2]
theorem mail_a {B : PB} {l : List Int} {w : Wt} {us : Nat} (h : partG (nextN (B.rb false) (B.rn false) 5 0) [] l = (w, us)) (h1 : w.over = false) : mailN B l = w := by unfold mailN; rw [h]; simp only [h1]; rfl
theorem mail_b {B : PB} {l : List Int} {w : Wt} {us : Nat} (h : partG (nextN (B.rb false) (B.rn false) 5 0) [] l = (w, us)) (h1 : w.over = true) (h2 : w.out = 4) : mailN B l = wOv 4 0 0 := by unfold mailN; rw [h]; simp only [h1, h2, if_true]
theorem mail_d {B : PB} {l : List Int} {w : Wt} {us : Nat} (h : partG (nextN (B.rb false) (B.rn false) 5 0) [] l = (w, us)) (h1 : w.over = true) (h2 : w.out ≠ 4) : mailN B l = tailN B.b 0 (l.drop us) := by unfold mailN; rw [h]; simp only [h1, if_true, if_neg h2]
theorem tail_1 {b : Nat} {st x : Int} {r : List Int} (h : x = 1) : tailN b st (x :: r) = wOv 8 0 0 := if_pos h
theorem tail_2 {b : Nat} {st x : Int} {r : List Int} (h : x ≠ 1) : tailN b st (x :: r) = wOv 1 0 0 := if_neg h
abbrev boxV (B : PB) : Value := .agg [I64 B.b, I64 B.nm, I64 B.nn].toArray

set_option maxRecDepth 8000 in
set_option maxHeartbeats 1000000 in
theorem over_spec (x : Int) : FnS Tryz.prog 45 [I64 x] [] (fun u Bs => u = .agg (wOv x 0 0).cells.toArray ∧ Bs = []) := by
 refine fn_body Tryz.func45 rfl rfl rfl ?_
 intro W0 R
 simp only [List.zipIdx_cons, List.zipIdx_nil, List.map_cons, List.map_nil, Nat.zero_add, Nat.reduceAdd, List.cons_append, List.nil_append]
 refine g_seq ?_
 refine g_region ?_
 refine gl_n rfl (o_alloc) ?_
 rintro _ _ ⟨b2, rfl, rfl⟩
 refine gl_nil ?_
 refine ge_then ?_
 refine g_seq ?_
 refine g_region ?_
 refine gl_v rfl (o_move rfl) ?_
 refine gl_v rfl (o_build rfl rfl) ?_
 first | refine gl_u (o_storeSA rfl rfl rfl rfl (by simp; omega) (by simp)) ?_ | refine gl_u (o_storeA rfl rfl rfl rfl rfl) ?_
 refine gl_nil ?_
 refine ge_then ?_
 refine g_ret ?_
 refine ret1c (.inl rfl) rfl rfl rfl rfl _ (⟨rfl, rfl⟩) (To.sat (by repeat (first | exact .nil | exact .done .refl | (apply To.cons; · (repeat (first | exact .head | apply Sel.tail))) | exact .done (by repeat (first | exact .refl | apply Drop.skip)))))

set_option maxRecDepth 8000 in
set_option maxHeartbeats 1000000 in
theorem mailR_spec (B : PB) (hB : 1 ≤ B.nm ∧ B.nm ≤ 64 ∧ 1 ≤ B.nn ∧ B.nn ≤ 64 ∧ B.b ≤ 60000) : FnS Tryz.prog 33 [boxV B] [] (fun u Bs => u = atV (B.rb false) (B.rn false) ∧ Bs = []) := by
 refine fn_body Tryz.func33 rfl rfl rfl ?_
 intro W0 R
 simp only [List.zipIdx_cons, List.zipIdx_nil, List.map_cons, List.map_nil, Nat.zero_add, Nat.reduceAdd, List.cons_append, List.nil_append]
 refine g_seq ?_
 refine g_region ?_
 refine gl_n rfl (o_boxA rfl) ?_
 rintro _ _ ⟨b1, rfl, rfl⟩
 refine gl_n rfl (o_alloc) ?_
 rintro _ _ ⟨b2, rfl, rfl⟩
 refine gl_nil ?_
 refine ge_then ?_
 refine g_seq ?_
 refine g_region ?_
 first | refine gl_v rfl (o_fldS rfl) ?_ | refine gl_v rfl (o_fld rfl) ?_
 first | refine gl_v rfl (o_load rfl rfl) ?_ | refine gl_v rfl (o_loadS rfl rfl) ?_ | refine gl_v rfl (o_loadC rfl) ?_
 refine gl_v rfl (o_addR ((B.b + 2 : Nat) : Int) (by rw [wr_i64 (by omega)]; omega) rfl rfl) ?_
 first | refine gl_v rfl (o_fldS rfl) ?_ | refine gl_v rfl (o_fld rfl) ?_
 first | refine gl_v rfl (o_load rfl rfl) ?_ | refine gl_v rfl (o_loadS rfl rfl) ?_ | refine gl_v rfl (o_loadC rfl) ?_
 refine gl_v rfl (o_build rfl rfl) ?_
 first | refine gl_u (o_storeSA rfl rfl rfl rfl (by simp; omega) (by simp)) ?_ | refine gl_u (o_storeA rfl rfl rfl rfl rfl) ?_
 refine gl_nil ?_
 refine ge_then ?_
 refine g_ret ?_
 refine ret1c (.inl rfl) rfl rfl rfl rfl _ (⟨rfl, rfl⟩) (To.sat (by repeat (first | exact .nil | exact .done .refl | (apply To.cons; · (repeat (first | exact .head | apply Sel.tail))) | exact .done (by repeat (first | exact .refl | apply Drop.skip)))))

set_option maxRecDepth 8000 in
set_option maxHeartbeats 1000000 in
theorem noteR_spec (B : PB) (hB : 1 ≤ B.nm ∧ B.nm ≤ 64 ∧ 1 ≤ B.nn ∧ B.nn ≤ 64 ∧ B.b ≤ 60000) : FnS Tryz.prog 34 [boxV B] [] (fun u Bs => u = atV (B.rb true) (B.rn true) ∧ Bs = []) := by
 refine fn_body Tryz.func34 rfl rfl rfl ?_
 intro W0 R
 simp only [List.zipIdx_cons, List.zipIdx_nil, List.map_cons, List.map_nil, Nat.zero_add, Nat.reduceAdd, List.cons_append, List.nil_append]
 refine g_seq ?_
 refine g_region ?_
 refine gl_n rfl (o_boxA rfl) ?_
 rintro _ _ ⟨b1, rfl, rfl⟩
 refine gl_n rfl (o_alloc) ?_
 rintro _ _ ⟨b2, rfl, rfl⟩
 refine gl_nil ?_
 refine ge_then ?_
 refine g_seq ?_
 refine g_region ?_
 first | refine gl_v rfl (o_fldS rfl) ?_ | refine gl_v rfl (o_fld rfl) ?_
 first | refine gl_v rfl (o_load rfl rfl) ?_ | refine gl_v rfl (o_loadS rfl rfl) ?_ | refine gl_v rfl (o_loadC rfl) ?_
 refine gl_v rfl (o_addR ((B.b + 4 : Nat) : Int) (by rw [wr_i64 (by omega)]; omega) rfl rfl) ?_
 first | refine gl_v rfl (o_fldS rfl) ?_ | refine gl_v rfl (o_fld rfl) ?_
 first | refine gl_v rfl (o_load rfl rfl) ?_ | refine gl_v rfl (o_loadS rfl rfl) ?_ | refine gl_v rfl (o_loadC rfl) ?_
 refine gl_v rfl (o_mulR ((2 * B.nm : Nat) : Int) (by rw [wr_i64 (by omega)]; omega) rfl rfl) ?_
 refine gl_v rfl (o_addR ((B.b + 2 + (2 + 2 * B.nm) : Nat) : Int) (by rw [wr_i64 (by omega)]; omega) rfl rfl) ?_
 first | refine gl_v rfl (o_fldS rfl) ?_ | refine gl_v rfl (o_fld rfl) ?_
 first | refine gl_v rfl (o_load rfl rfl) ?_ | refine gl_v rfl (o_loadS rfl rfl) ?_ | refine gl_v rfl (o_loadC rfl) ?_
 refine gl_v rfl (o_build rfl rfl) ?_
 first | refine gl_u (o_storeSA rfl rfl rfl rfl (by simp; omega) (by simp)) ?_ | refine gl_u (o_storeA rfl rfl rfl rfl rfl) ?_
 refine gl_nil ?_
 refine ge_then ?_
 refine g_ret ?_
 refine ret1c (.inl rfl) rfl rfl rfl rfl _ (⟨rfl, rfl⟩) (To.sat (by repeat (first | exact .nil | exact .done .refl | (apply To.cons; · (repeat (first | exact .head | apply Sel.tail))) | exact .done (by repeat (first | exact .refl | apply Drop.skip)))))

set_option maxRecDepth 8000 in
set_option maxHeartbeats 1000000 in
theorem store_spec (B : PB) (hB : 1 ≤ B.nm ∧ B.nm ≤ 64 ∧ 1 ≤ B.nn ∧ B.nn ≤ 64 ∧ B.b ≤ 60000) (st : Int) (a : Option Addr) (c : Nat) (l : List Int) (hl : LI l) (hm : l.length ≤ 100000) (A : Assn) (hr : Rd A a c l) : FnS Tryz.prog 46 [boxV B, .slice a l.length c, U64 st] [A] (fun u Bs => u = .agg (storeN B st l).cells.toArray ∧ Bs = [A]) := by
 refine fn_body Tryz.func46 rfl rfl rfl ?_
 intro W0 R
 simp only [List.zipIdx_cons, List.zipIdx_nil, List.map_cons, List.map_nil, Nat.zero_add, Nat.reduceAdd, List.cons_append, List.nil_append]
 refine g_seq ?_
 refine g_region ?_
 refine gl_n rfl (o_boxA rfl) ?_
 rintro _ _ ⟨b3, rfl, rfl⟩
 refine gl_n rfl (o_alloc) ?_
 rintro _ _ ⟨b6, rfl, rfl⟩
 refine gl_nil ?_
 refine ge_then ?_
 refine g_seq ?_
 refine g_seq ?_
 refine g_region ?_
 refine gl_v rfl (o_move rfl) ?_
 first | refine gl_v rfl (o_len rfl) ?_ | refine gl_v rfl (o_lenL rfl) ?_
 refine gl_v rfl (o_eql rfl rfl) ?_
 refine gl_nil ?_
 refine ge_then ?_
 refine g_cond rfl (fun hc1 => ?_) (fun hc1 => ?_)
 ·
  first | replace hc1 := of_decide_eq_true hc1 | replace hc1 := lt_f hc1 | replace hc1 := le_f hc1 | replace hc1 := dec_f hc1 | replace hc1 := nlt_t hc1 | replace hc1 := nle_t hc1 | replace hc1 := ndec_t hc1 | replace hc1 := ndec_f hc1 | replace hc1 := nn_t hc1 | replace hc1 := nn_f hc1 | skip
  obtain rfl : l = [] := List.eq_nil_of_length_eq_zero (by omega)
  refine g_seq ?_
  refine g_region ?_
  first | refine gl_v rfl (o_fldS rfl) ?_ | refine gl_v rfl (o_fld rfl) ?_
  first | refine gl_v rfl (o_load rfl rfl) ?_ | refine gl_v rfl (o_loadS rfl rfl) ?_ | refine gl_v rfl (o_loadC rfl) ?_
  refine gl_v rfl (o_move rfl) ?_
  refine gl_v rfl (o_build rfl rfl) ?_
  first | refine gl_u (o_storeSA rfl rfl rfl rfl (by simp; omega) (by simp)) ?_ | refine gl_u (o_storeA rfl rfl rfl rfl rfl) ?_
  refine gl_nil ?_
  refine ge_then ?_
  refine g_ret ?_
  refine ge_then_ret ?_
  refine ret1c (.inl rfl) rfl rfl rfl rfl _ (⟨rfl, rfl⟩) (To.sat (by repeat (first | exact .nil | exact .done .refl | (apply To.cons; · (repeat (first | exact .head | apply Sel.tail))) | exact .done (by repeat (first | exact .refl | apply Drop.skip)))))
 ·
  first | replace hc1 := of_decide_eq_true hc1 | replace hc1 := lt_f hc1 | replace hc1 := le_f hc1 | replace hc1 := dec_f hc1 | replace hc1 := nlt_t hc1 | replace hc1 := nle_t hc1 | replace hc1 := ndec_t hc1 | replace hc1 := ndec_f hc1 | replace hc1 := nn_t hc1 | replace hc1 := nn_f hc1 | skip
  obtain ⟨x, r, rfl⟩ : ∃ x r, l = x :: r := by cases l with | nil => simp at * | cons x r => exact ⟨x, r, rfl⟩
  refine g_skip ?_
  refine ge_then ?_
  refine g_seq ?_
  refine g_region ?_
  refine gl_c rfl (o_call rfl (over_spec 1) (by repeat (first | exact .nil | (apply Part.cons; · (repeat (first | exact .head | apply Sel.tail)))))) ?_
  rintro _ R ⟨_, ⟨rfl, rfl⟩, rfl⟩
  try simp only [List.cons_append, List.nil_append]
  first | refine gl_u (o_storeSA rfl rfl rfl rfl (by simp; omega) (by simp)) ?_ | refine gl_u (o_storeA rfl rfl rfl rfl rfl) ?_
  refine gl_nil ?_
  refine ge_then ?_
  refine g_ret ?_
  refine ret1c (.inl rfl) rfl rfl rfl rfl _ (⟨rfl, rfl⟩) (To.sat (by repeat (first | exact .nil | exact .done .refl | (apply To.cons; · (repeat (first | exact .head | apply Sel.tail))) | exact .done (by repeat (first | exact .refl | apply Drop.skip)))))

set_option maxRecDepth 8000 in
set_option maxHeartbeats 1000000 in
theorem rpart_spec (b n : Nat) (hn : 1 ≤ n) (hn2 : n ≤ 64) (hb : b ≤ 65536) (kind v : Int) (hk : 1 ≤ kind ∧ kind ≤ 5) (a : Option Addr) (c : Nat) (l : List Int) (hl : LI l) (hm : l.length ≤ 100000) (A : Assn) (hr : Rd A a c l) : FnS Tryz.prog 48 [atV b n, I64 kind, U64 v, .slice a l.length c] [A] (fun u Bs => u = .tuple #[.agg (partG (nextN b n kind v) [] l).1.cells.toArray, I64 ((partG (nextN b n kind v) [] l).2 : Nat)] ∧ Bs = [A]) := by
 refine fn_body Tryz.func48 rfl rfl rfl ?_
 intro W0 R
 simp only [List.zipIdx_cons, List.zipIdx_nil, List.map_cons, List.map_nil, Nat.zero_add, Nat.reduceAdd, List.cons_append, List.nil_append]
 haveI hri := hr.inst
 obtain ⟨P, hP⟩ : ∃ P, P = partG (nextN b n kind v) [] l := ⟨_, rfl⟩
 rw [← hP]
 refine g_seq ?_
 refine g_region ?_
 refine gl_n rfl (o_boxA rfl) ?_
 rintro _ _ ⟨b4, rfl, rfl⟩
 refine gl_n rfl (o_alloc) ?_
 rintro _ _ ⟨b8, rfl, rfl⟩
 refine gl_v rfl (o_assign rfl) ?_
 refine gl_nil ?_
 refine ge_then ?_
 refine g_seq ?_
 refine g_seq ?_
 refine g_region ?_
 refine gl_v rfl (o_assign rfl) ?_
 refine gl_nil ?_
 refine ge_then ?_
 refine g_block ?_
 refine g_loop (ι := Nat) (fun k => k ≤ l.length ∧ partG (nextN b n kind v) (l.take k) (l.drop k) = P) (fun k => [(10, I64 k), (9, I64 0), (8, ptr b8 0), (4, ptr b4 0), (1, I64 kind), (2, U64 v), (3, .slice a l.length c)]) (fun _ => cel b8 56 [.bool false, I64 0, I64 0, U64 0, U64 0, I64 0, U64 0, U64 0] :: cel b4 79 [I64 b, I64 n] :: A :: R) (fun k => l.length - k) 0 (⟨Nat.zero_le _, hP.symm⟩) (Keep.cons rfl (Keep.cons rfl (Keep.cons rfl (Keep.cons rfl (Keep.cons rfl (Keep.cons rfl (Keep.cons rfl (Keep.nil)))))))) (To.sat (by repeat (first | exact .nil | exact .done .refl | (apply To.cons; · (repeat (first | exact .head | apply Sel.tail))) | exact .done (by repeat (first | exact .refl | apply Drop.skip))))) ?_
 rintro k ⟨hk1, hk2⟩
 replace hk1 : k ≤ l.length := hk1
 refine g_seq ?_
 refine g_seq ?_
 refine g_region ?_
 refine gl_v rfl (o_move rfl) ?_
 refine gl_v rfl (o_move rfl) ?_
 refine gl_v rfl (o_lenL rfl) ?_
 refine gl_v rfl (o_lss rfl rfl) ?_
 refine gl_nil ?_
 refine ge_then ?_
 refine g_cond rfl (fun hc1 => ?_) (fun hc1 => ?_)
 ·
  first | replace hc1 := of_decide_eq_true hc1 | replace hc1 := lt_f hc1 | replace hc1 := le_f hc1 | replace hc1 := dec_f hc1 | replace hc1 := nlt_t hc1 | replace hc1 := nle_t hc1 | replace hc1 := ndec_t hc1 | replace hc1 := ndec_f hc1 | replace hc1 := nn_t hc1 | replace hc1 := nn_f hc1 | skip
  have hk3 : k < l.length := by omega
  refine g_skip ?_
  refine ge_then ?_
  refine g_seq ?_
  refine g_block ?_
  refine g_seq ?_
  have hr1 := hr.to (i := k) (by omega)
  haveI := hr1.inst
  have htk : (l.take k).length = k := by rw [List.length_take]; omega
  refine g_treeM [7, 8, 9] [8] (.stab 0 (.stab 1 (.stab 2 (.stab 3 (.stab 4 (.stab 5 (.stab 6 (.eff 7 (.eff 8 (.eff 9 .nil .nil) .nil) (.eff 8 (.eff 7 (.eff 9 .nil .nil) .nil) .nil))))))))) [cel b4 79 [I64 b, I64 n]] mixed (by kernel_rfl) ?_
  first | refine gt_vs rfl .none rfl (o_loadSA rfl rfl rfl) (To.sat (by repeat (first | exact .nil | exact .done .refl | (apply To.cons; · (repeat (first | exact .head | apply Sel.tail))) | exact .done (by repeat (first | exact .refl | apply Drop.skip))))) ?_ | refine gt_vs rfl .none rfl (o_loadA rfl rfl rfl) (To.sat (by repeat (first | exact .nil | exact .done .refl | (apply To.cons; · (repeat (first | exact .head | apply Sel.tail))) | exact .done (by repeat (first | exact .refl | apply Drop.skip))))) ?_
  refine gt_vs rfl .none rfl (o_move rfl) (To.sat (by repeat (first | exact .nil | exact .done .refl | (apply To.cons; · (repeat (first | exact .head | apply Sel.tail))) | exact .done (by repeat (first | exact .refl | apply Drop.skip))))) ?_
  refine gt_vs rfl .none rfl (o_move rfl) (To.sat (by repeat (first | exact .nil | exact .done .refl | (apply To.cons; · (repeat (first | exact .head | apply Sel.tail))) | exact .done (by repeat (first | exact .refl | apply Drop.skip))))) ?_
  refine gt_vs rfl .none rfl (o_move rfl) (To.sat (by repeat (first | exact .nil | exact .done .refl | (apply To.cons; · (repeat (first | exact .head | apply Sel.tail))) | exact .done (by repeat (first | exact .refl | apply Drop.skip))))) ?_
  refine gt_vs rfl .none rfl (o_move rfl) (To.sat (by repeat (first | exact .nil | exact .done .refl | (apply To.cons; · (repeat (first | exact .head | apply Sel.tail))) | exact .done (by repeat (first | exact .refl | apply Drop.skip))))) ?_
  refine gt_vs rfl .none rfl (o_slTo (i := (l.take k).length) rfl (by rw [htk]; rfl) (by rw [htk]; have := hr.2; omega)) (To.sat (by repeat (first | exact .nil | exact .done .refl | (apply To.cons; · (repeat (first | exact .head | apply Sel.tail))) | exact .done (by repeat (first | exact .refl | apply Drop.skip))))) ?_
  refine gt_vs rfl .none rfl (o_build rfl rfl) (To.sat (by repeat (first | exact .nil | exact .done .refl | (apply To.cons; · (repeat (first | exact .head | apply Sel.tail))) | exact .done (by repeat (first | exact .refl | apply Drop.skip))))) ?_
  refine gt_alts ?_ ?_
  ·
   refine gt_c rfl .none rfl (o_call rfl (rnext_spec b n hn hn2 hb kind v hk a c (l.take k) (LI_take hl k) (by rw [htk]; omega) A) (by repeat (first | exact .nil | (apply Part.cons; · (repeat (first | exact .head | apply Sel.tail)))))) ?_
   rintro _ R ⟨_, ⟨rfl, rfl⟩, rfl⟩
   try simp only [List.cons_append, List.nil_append]
   refine ⟨(fun hG => absurd hG (by decide)), ?_⟩
   refine gt_n rfl .none rfl (o_alloc) ?_
   rintro _ _ ⟨b11, rfl, rfl⟩
   refine ⟨(fun _ => (To.sat (by repeat (first | exact .nil | exact .done .refl | (apply To.cons; · (repeat (first | exact .head | apply Sel.tail))) | exact .done (by repeat (first | exact .refl | apply Drop.skip)))))), ?_⟩
   first | refine gt_u rfl .none (o_storeSA rfl rfl rfl rfl (by simp; omega) (by simp)) (fun hG => absurd hG (by decide)) ?_ | refine gt_u rfl .none (o_storeA rfl rfl rfl rfl rfl) (fun hG => absurd hG (by decide)) ?_
   refine gt_nil ?_
   refine ge_then ?_
   refine g_seq ?_
   refine g_region ?_
   first | refine gl_v rfl (o_fldS rfl) ?_ | refine gl_v rfl (o_fld rfl) ?_
   refine gl_v rfl (o_load (v := .bool (nextN b n kind v (l.take k)).over) rfl rfl) ?_
   refine gl_nil ?_
   refine ge_then ?_
   refine g_cond rfl (fun hc2 => ?_) (fun hc2 => ?_)
   ·
    first | replace hc2 := of_decide_eq_true hc2 | replace hc2 := lt_f hc2 | replace hc2 := le_f hc2 | replace hc2 := dec_f hc2 | replace hc2 := nlt_t hc2 | replace hc2 := nle_t hc2 | replace hc2 := ndec_t hc2 | replace hc2 := ndec_f hc2 | replace hc2 := nn_t hc2 | replace hc2 := nn_f hc2 | skip
    have hov : (nextN b n kind v (l.take k)).over = true := hc2
    refine g_seq ?_
    refine g_region ?_
    first | refine gl_v rfl (o_loadSA rfl rfl rfl) ?_ | refine gl_v rfl (o_loadA rfl rfl rfl) ?_
    refine gl_v rfl (o_move rfl) ?_
    first | refine gl_u (o_storeSA rfl rfl rfl rfl (by simp; omega) (by simp)) ?_ | refine gl_u (o_storeA rfl rfl rfl rfl rfl) ?_
    refine gl_v rfl (o_assign rfl) ?_
    refine gl_nil ?_
    refine ge_then ?_
    refine g_ret ?_
    refine ge_block_ret ?_
    refine ge_then_ret ?_
    refine ge_then_ret ?_
    refine ge_block_ret ?_
    refine ge_then_ret ?_
    rw [part_stop hk2 hk3 hov]
    exact ret2c (.inl rfl) rfl rfl rfl rfl [A] ⟨rfl, rfl⟩ (To.sat (by repeat (first | exact .nil | exact .done .refl | (apply To.cons; · (repeat (first | exact .head | apply Sel.tail))) | exact .done (by repeat (first | exact .refl | apply Drop.skip)))))
   ·
    first | replace hc2 := of_decide_eq_true hc2 | replace hc2 := lt_f hc2 | replace hc2 := le_f hc2 | replace hc2 := dec_f hc2 | replace hc2 := nlt_t hc2 | replace hc2 := nle_t hc2 | replace hc2 := ndec_t hc2 | replace hc2 := ndec_f hc2 | replace hc2 := nn_t hc2 | replace hc2 := nn_f hc2 | skip
    have hov : (nextN b n kind v (l.take k)).over = false := hc2
    refine g_skip ?_
    refine ge_block ?_
    refine ge_then ?_
    refine g_region ?_
    refine gl_v rfl (o_move rfl) ?_
    refine gl_v rfl (o_addR ((k + 1 : Nat) : Int) (by rw [wr_i64 (by omega)]; omega) rfl rfl) ?_
    refine gl_v rfl (o_assign rfl) ?_
    refine gl_nil ?_
    refine ge_round (k + 1) ⟨show k + 1 ≤ l.length by omega, part_go hk2 hk3 hov⟩ (show l.length - (k + 1) < l.length - k by omega) (Keep.cons rfl (Keep.cons rfl (Keep.cons rfl (Keep.cons rfl (Keep.cons rfl (Keep.cons rfl (Keep.cons rfl (Keep.nil)))))))) (To.sat (by repeat (first | exact .nil | exact .done .refl | (apply To.cons; · (repeat (first | exact .head | apply Sel.tail))) | exact .done (by repeat (first | exact .refl | apply Drop.skip)))))
  ·
   refine gt_n rfl .none rfl (o_alloc) ?_
   rintro _ _ ⟨b11, rfl, rfl⟩
   refine ⟨(fun _ => (To.sat (by repeat (first | exact .nil | exact .done .refl | (apply To.cons; · (repeat (first | exact .head | apply Sel.tail))) | exact .done (by repeat (first | exact .refl | apply Drop.skip)))))), ?_⟩
   refine gt_c rfl .none rfl (o_call rfl (rnext_spec b n hn hn2 hb kind v hk a c (l.take k) (LI_take hl k) (by rw [htk]; omega) A) (by repeat (first | exact .nil | (apply Part.cons; · (repeat (first | exact .head | apply Sel.tail)))))) ?_
   rintro _ R ⟨_, ⟨rfl, rfl⟩, rfl⟩
   try simp only [List.cons_append, List.nil_append]
   refine ⟨(fun hG => absurd hG (by decide)), ?_⟩
   first | refine gt_u rfl .none (o_storeSA rfl rfl rfl rfl (by simp; omega) (by simp)) (fun hG => absurd hG (by decide)) ?_ | refine gt_u rfl .none (o_storeA rfl rfl rfl rfl rfl) (fun hG => absurd hG (by decide)) ?_
   refine gt_nil ?_
   refine ge_then ?_
   refine g_seq ?_
   refine g_region ?_
   first | refine gl_v rfl (o_fldS rfl) ?_ | refine gl_v rfl (o_fld rfl) ?_
   refine gl_v rfl (o_load (v := .bool (nextN b n kind v (l.take k)).over) rfl rfl) ?_
   refine gl_nil ?_
   refine ge_then ?_
   refine g_cond rfl (fun hc3 => ?_) (fun hc3 => ?_)
   ·
    first | replace hc3 := of_decide_eq_true hc3 | replace hc3 := lt_f hc3 | replace hc3 := le_f hc3 | replace hc3 := dec_f hc3 | replace hc3 := nlt_t hc3 | replace hc3 := nle_t hc3 | replace hc3 := ndec_t hc3 | replace hc3 := ndec_f hc3 | replace hc3 := nn_t hc3 | replace hc3 := nn_f hc3 | skip
    have hov : (nextN b n kind v (l.take k)).over = true := hc3
    refine g_seq ?_
    refine g_region ?_
    first | refine gl_v rfl (o_loadSA rfl rfl rfl) ?_ | refine gl_v rfl (o_loadA rfl rfl rfl) ?_
    refine gl_v rfl (o_move rfl) ?_
    first | refine gl_u (o_storeSA rfl rfl rfl rfl (by simp; omega) (by simp)) ?_ | refine gl_u (o_storeA rfl rfl rfl rfl rfl) ?_
    refine gl_v rfl (o_assign rfl) ?_
    refine gl_nil ?_
    refine ge_then ?_
    refine g_ret ?_
    refine ge_block_ret ?_
    refine ge_then_ret ?_
    refine ge_then_ret ?_
    refine ge_block_ret ?_
    refine ge_then_ret ?_
    rw [part_stop hk2 hk3 hov]
    exact ret2c (.inl rfl) rfl rfl rfl rfl [A] ⟨rfl, rfl⟩ (To.sat (by repeat (first | exact .nil | exact .done .refl | (apply To.cons; · (repeat (first | exact .head | apply Sel.tail))) | exact .done (by repeat (first | exact .refl | apply Drop.skip)))))
   ·
    first | replace hc3 := of_decide_eq_true hc3 | replace hc3 := lt_f hc3 | replace hc3 := le_f hc3 | replace hc3 := dec_f hc3 | replace hc3 := nlt_t hc3 | replace hc3 := nle_t hc3 | replace hc3 := ndec_t hc3 | replace hc3 := ndec_f hc3 | replace hc3 := nn_t hc3 | replace hc3 := nn_f hc3 | skip
    have hov : (nextN b n kind v (l.take k)).over = false := hc3
    refine g_skip ?_
    refine ge_block ?_
    refine ge_then ?_
    refine g_region ?_
    refine gl_v rfl (o_move rfl) ?_
    refine gl_v rfl (o_addR ((k + 1 : Nat) : Int) (by rw [wr_i64 (by omega)]; omega) rfl rfl) ?_
    refine gl_v rfl (o_assign rfl) ?_
    refine gl_nil ?_
    refine ge_round (k + 1) ⟨show k + 1 ≤ l.length by omega, part_go hk2 hk3 hov⟩ (show l.length - (k + 1) < l.length - k by omega) (Keep.cons rfl (Keep.cons rfl (Keep.cons rfl (Keep.cons rfl (Keep.cons rfl (Keep.cons rfl (Keep.cons rfl (Keep.nil)))))))) (To.sat (by repeat (first | exact .nil | exact .done .refl | (apply To.cons; · (repeat (first | exact .head | apply Sel.tail))) | exact .done (by repeat (first | exact .refl | apply Drop.skip)))))
 ·
  first | replace hc1 := of_decide_eq_true hc1 | replace hc1 := lt_f hc1 | replace hc1 := le_f hc1 | replace hc1 := dec_f hc1 | replace hc1 := nlt_t hc1 | replace hc1 := nle_t hc1 | replace hc1 := ndec_t hc1 | replace hc1 := ndec_f hc1 | replace hc1 := nn_t hc1 | replace hc1 := nn_f hc1 | skip
  have hke := part_end hk2 (by omega)
  refine g_exit ?_
  refine ge_then_exit ?_
  refine ge_then_exit ?_
  refine ge_block_exit ?_
  refine ge_then ?_
  refine g_seq ?_
  refine g_region ?_
  first | refine gl_v rfl (o_loadSA rfl rfl rfl) ?_ | refine gl_v rfl (o_loadA rfl rfl rfl) ?_
  refine gl_v rfl (o_move rfl) ?_
  refine gl_v rfl (o_move rfl) ?_
  refine gl_v rfl (o_move rfl) ?_
  refine gl_v rfl (o_build rfl rfl) ?_
  refine gl_c rfl (o_call rfl (rnext_spec b n hn hn2 hb kind v hk a c l hl (by omega) A) (by repeat (first | exact .nil | (apply Part.cons; · (repeat (first | exact .head | apply Sel.tail)))))) ?_
  rintro _ R ⟨_, ⟨rfl, rfl⟩, rfl⟩
  try simp only [List.cons_append, List.nil_append]
  refine gl_v rfl (o_move rfl) ?_
  refine gl_v rfl (o_lenL rfl) ?_
  first | refine gl_u (o_storeSA rfl rfl rfl rfl (by simp; omega) (by simp)) ?_ | refine gl_u (o_storeA rfl rfl rfl rfl rfl) ?_
  refine gl_v rfl (o_assign rfl) ?_
  refine gl_nil ?_
  refine ge_then ?_
  refine g_ret ?_
  rw [hke]
  exact ret2c (.inl rfl) rfl rfl rfl rfl [A] ⟨rfl, rfl⟩ (To.sat (by repeat (first | exact .nil | exact .done .refl | (apply To.cons; · (repeat (first | exact .head | apply Sel.tail))) | exact .done (by repeat (first | exact .refl | apply Drop.skip)))))

set_option maxRecDepth 8000 in
set_option maxHeartbeats 1000000 in
theorem rlayP_spec (B : PB) (hB : 1 ≤ B.nm ∧ B.nm ≤ 64 ∧ 1 ≤ B.nn ∧ B.nn ≤ 64 ∧ B.b ≤ 60000) (nt : Bool) (v : Int) (a : Option Addr) (c : Nat) (l : List Int) (hl : LI l) (hm : l.length ≤ 100000) (A : Assn) (hr : Rd A a c l) : FnS Tryz.prog 44 [boxV B, atV (B.rb nt) (B.rn nt), U64 v, .slice a l.length c, .bool nt] [A] (fun u Bs => u = .agg (layN B nt v l).cells.toArray ∧ Bs = [A]) := by
 refine fn_body Tryz.func44 rfl rfl rfl ?_
 intro W0 R
 simp only [List.zipIdx_cons, List.zipIdx_nil, List.map_cons, List.map_nil, Nat.zero_add, Nat.reduceAdd, List.cons_append, List.nil_append]
 have hrb : 1 ≤ B.rn nt ∧ B.rn nt ≤ 64 ∧ B.rb nt ≤ 65536 := by cases nt <;> simp [PB.rb, PB.rn] <;> omega
 refine g_seq ?_
 refine g_region ?_
 refine gl_n rfl (o_boxA rfl) ?_
 rintro _ _ ⟨b5, rfl, rfl⟩
 refine gl_n rfl (o_boxA rfl) ?_
 rintro _ _ ⟨b6, rfl, rfl⟩
 refine gl_n rfl (o_alloc) ?_
 rintro _ _ ⟨b10, rfl, rfl⟩
 refine gl_nil ?_
 refine ge_then ?_
 refine g_seq ?_
 refine g_region ?_
 first | refine gl_v rfl (o_loadSA rfl rfl rfl) ?_ | refine gl_v rfl (o_loadA rfl rfl rfl) ?_
 refine gl_v rfl (o_move rfl) ?_
 refine gl_v rfl (o_move rfl) ?_
 refine gl_c rfl (o_call rfl (rpart_spec (B.rb nt) (B.rn nt) hrb.1 hrb.2.1 hrb.2.2 1 v (by decide) a c l hl hm A hr) (by repeat (first | exact .nil | (apply Part.cons; · (repeat (first | exact .head | apply Sel.tail)))))) ?_
 rintro _ R ⟨_, ⟨rfl, rfl⟩, rfl⟩
 try simp only [List.cons_append, List.nil_append]
 rcases hP : partG (nextN (B.rb nt) (B.rn nt) 1 v) [] l with ⟨⟨ov, wh, ce, wa, wb, ou, va, ti⟩, us⟩
 have hus := part_le (nextN (B.rb nt) (B.rn nt) 1 v) l []
 rw [hP] at hus
 simp only [List.length_nil, Nat.zero_add] at hus
 simp only [Wt.cells]
 refine gl_v rfl (o_move rfl) ?_
 refine gl_v rfl (o_extract rfl rfl) ?_
 refine gl_v rfl (o_extract rfl rfl) ?_
 refine gl_n rfl (o_alloc) ?_
 rintro _ _ ⟨b11, rfl, rfl⟩
 first | refine gl_u (o_storeSA rfl rfl rfl rfl (by simp; omega) (by simp)) ?_ | refine gl_u (o_storeA rfl rfl rfl rfl rfl) ?_
 refine gl_v rfl (o_assign rfl) ?_
 refine gl_nil ?_
 refine ge_then ?_
 refine g_seq ?_
 refine g_seq ?_
 refine g_region ?_
 first | refine gl_v rfl (o_fldS rfl) ?_ | refine gl_v rfl (o_fld rfl) ?_
 first | refine gl_v rfl (o_load rfl rfl) ?_ | refine gl_v rfl (o_loadS rfl rfl) ?_ | refine gl_v rfl (o_loadC rfl) ?_
 refine gl_v rfl (o_not rfl) ?_
 refine gl_nil ?_
 refine ge_then ?_
 refine g_cond rfl (fun hc1 => ?_) (fun hc1 => ?_)
 ·
  first | replace hc1 := of_decide_eq_true hc1 | replace hc1 := lt_f hc1 | replace hc1 := le_f hc1 | replace hc1 := dec_f hc1 | replace hc1 := nlt_t hc1 | replace hc1 := nle_t hc1 | replace hc1 := ndec_t hc1 | replace hc1 := ndec_f hc1 | replace hc1 := nn_t hc1 | replace hc1 := nn_f hc1 | skip
  have hov : ov = false := by simpa using hc1
  subst hov
  refine g_seq ?_
  refine g_region ?_
  first | refine gl_v rfl (o_loadSA rfl rfl rfl) ?_ | refine gl_v rfl (o_loadA rfl rfl rfl) ?_
  first | refine gl_u (o_storeSA rfl rfl rfl rfl (by simp; omega) (by simp)) ?_ | refine gl_u (o_storeA rfl rfl rfl rfl rfl) ?_
  refine gl_nil ?_
  refine ge_then ?_
  refine g_ret ?_
  refine ge_then_ret ?_
  refine ret1c (.inl rfl) rfl rfl rfl rfl _ (⟨by rw [lay_a hP rfl]; rfl, rfl⟩) (To.sat (by repeat (first | exact .nil | exact .done .refl | (apply To.cons; · (repeat (first | exact .head | apply Sel.tail))) | exact .done (by repeat (first | exact .refl | apply Drop.skip)))))
 ·
  first | replace hc1 := of_decide_eq_true hc1 | replace hc1 := lt_f hc1 | replace hc1 := le_f hc1 | replace hc1 := dec_f hc1 | replace hc1 := nlt_t hc1 | replace hc1 := nle_t hc1 | replace hc1 := ndec_t hc1 | replace hc1 := ndec_f hc1 | replace hc1 := nn_t hc1 | replace hc1 := nn_f hc1 | skip
  have hov : ov = true := by simpa using hc1
  subst hov
  refine g_skip ?_
  refine ge_then ?_
  refine g_seq ?_
  refine g_seq ?_
  refine g_region ?_
  first | refine gl_v rfl (o_fldS rfl) ?_ | refine gl_v rfl (o_fld rfl) ?_
  first | refine gl_v rfl (o_load rfl rfl) ?_ | refine gl_v rfl (o_loadS rfl rfl) ?_ | refine gl_v rfl (o_loadC rfl) ?_
  refine gl_v rfl (o_neq rfl rfl) ?_
  refine gl_nil ?_
  refine ge_then ?_
  refine g_cond rfl (fun hc2 => ?_) (fun hc2 => ?_)
  ·
   first | replace hc2 := of_decide_eq_true hc2 | replace hc2 := lt_f hc2 | replace hc2 := le_f hc2 | replace hc2 := dec_f hc2 | replace hc2 := nlt_t hc2 | replace hc2 := nle_t hc2 | replace hc2 := ndec_t hc2 | replace hc2 := ndec_f hc2 | replace hc2 := nn_t hc2 | replace hc2 := nn_f hc2 | skip
   have ho : ou ≠ 1 := by simpa using hc2
   refine g_seq ?_
   refine g_region ?_
   first | refine gl_v rfl (o_fldS rfl) ?_ | refine gl_v rfl (o_fld rfl) ?_
   first | refine gl_v rfl (o_load rfl rfl) ?_ | refine gl_v rfl (o_loadS rfl rfl) ?_ | refine gl_v rfl (o_loadC rfl) ?_
   refine gl_c rfl (o_call rfl (over_spec ou) (by repeat (first | exact .nil | (apply Part.cons; · (repeat (first | exact .head | apply Sel.tail)))))) ?_
   rintro _ R ⟨_, ⟨rfl, rfl⟩, rfl⟩
   try simp only [List.cons_append, List.nil_append]
   first | refine gl_u (o_storeSA rfl rfl rfl rfl (by simp; omega) (by simp)) ?_ | refine gl_u (o_storeA rfl rfl rfl rfl rfl) ?_
   refine gl_nil ?_
   refine ge_then ?_
   refine g_ret ?_
   refine ge_then_ret ?_
   refine ret1c (.inl rfl) rfl rfl rfl rfl _ (⟨by rw [lay_b hP rfl ho]; rfl, rfl⟩) (To.sat (by repeat (first | exact .nil | exact .done .refl | (apply To.cons; · (repeat (first | exact .head | apply Sel.tail))) | exact .done (by repeat (first | exact .refl | apply Drop.skip)))))
  ·
   first | replace hc2 := of_decide_eq_true hc2 | replace hc2 := lt_f hc2 | replace hc2 := le_f hc2 | replace hc2 := dec_f hc2 | replace hc2 := nlt_t hc2 | replace hc2 := nle_t hc2 | replace hc2 := ndec_t hc2 | replace hc2 := ndec_f hc2 | replace hc2 := nn_t hc2 | replace hc2 := nn_f hc2 | skip
   have ho : ou = 1 := by simpa using hc2
   subst ho
   refine g_skip ?_
   refine ge_then ?_
   refine g_seq ?_
   refine g_region ?_
   refine gl_v rfl (o_move rfl) ?_
   refine gl_v rfl (o_move rfl) ?_
   refine gl_v rfl (o_slFrom (i := us) rfl rfl hus) ?_
   refine gl_v rfl (o_assign rfl) ?_
   refine gl_nil ?_
   refine ge_then ?_
   refine g_block ?_
   refine g_loop (ι := Option Addr × Nat × List Int) (fun x => Rd A x.1 x.2.1 x.2.2 ∧ LI x.2.2 ∧ layN B nt v l = pairN B.b nt x.2.2 ∧ x.2.2.length ≤ 100000) (fun x => [(13, .slice x.1 x.2.2.length x.2.1), (10, ptr b10 0), (5, ptr b5 0), (4, .bool nt)]) (fun _ => cel b10 56 [.bool false, I64 0, I64 0, U64 0, U64 0, I64 0, U64 0, U64 0] :: cel b5 25 [I64 B.b, I64 B.nm, I64 B.nn] :: A :: R) (fun x => x.2.2.length) ((if c = us then a else a.map (fun x : Addr => x.add (us * 1))), c - us, l.drop us) (⟨hr.from hus, LI_drop hl us, lay_c hP rfl rfl, by rw [List.length_drop]; omega⟩) ((Keep.cons (by show some (Value.slice _ _ _) = some (Value.slice _ _ _); rw [List.length_drop]) (Keep.cons rfl (Keep.cons rfl (Keep.cons rfl (Keep.nil)))))) (To.sat (by repeat (first | exact .nil | exact .done .refl | (apply To.cons; · (repeat (first | exact .head | apply Sel.tail))) | exact .done (by repeat (first | exact .refl | apply Drop.skip))))) ?_
   rintro ⟨a', c', r⟩ ⟨hr', hl', hp', hm'⟩
   replace hr' : Rd A a' c' r := hr'
   replace hl' : LI r := hl'
   replace hp' : layN B nt v l = pairN B.b nt r := hp'
   replace hm' : r.length ≤ 100000 := hm'
   dsimp only
   haveI := hr'.inst
   refine g_block ?_
   refine g_seq ?_
   refine g_seq ?_
   refine g_region ?_
   refine gl_v rfl (o_move rfl) ?_
   refine gl_v rfl (o_lenL rfl) ?_
   refine gl_v rfl (o_eql rfl rfl) ?_
   refine gl_nil ?_
   refine ge_then ?_
   refine g_cond rfl (fun hc3 => ?_) (fun hc3 => ?_)
   ·
    first | replace hc3 := of_decide_eq_true hc3 | replace hc3 := lt_f hc3 | replace hc3 := le_f hc3 | replace hc3 := dec_f hc3 | replace hc3 := nlt_t hc3 | replace hc3 := nle_t hc3 | replace hc3 := ndec_t hc3 | replace hc3 := ndec_f hc3 | replace hc3 := nn_t hc3 | replace hc3 := nn_f hc3 | skip
    obtain rfl : r = [] := List.eq_nil_of_length_eq_zero (by have h9 := hc3; omega)
    refine g_seq ?_
    refine g_region ?_
    first | refine gl_v rfl (o_fldS rfl) ?_ | refine gl_v rfl (o_fld rfl) ?_
    first | refine gl_v rfl (o_load rfl rfl) ?_ | refine gl_v rfl (o_loadS rfl rfl) ?_ | refine gl_v rfl (o_loadC rfl) ?_
    refine gl_v rfl (o_build rfl rfl) ?_
    first | refine gl_u (o_storeSA rfl rfl rfl rfl (by simp; omega) (by simp)) ?_ | refine gl_u (o_storeA rfl rfl rfl rfl rfl) ?_
    refine gl_nil ?_
    refine ge_then ?_
    refine g_ret ?_
    refine ge_then_ret ?_
    refine ge_block_ret ?_
    refine ge_then_ret ?_
    refine ge_block_ret ?_
    refine ret1c (.inl rfl) rfl rfl rfl rfl _ (⟨by rw [hp']; rfl, rfl⟩) (To.sat (by repeat (first | exact .nil | exact .done .refl | (apply To.cons; · (repeat (first | exact .head | apply Sel.tail))) | exact .done (by repeat (first | exact .refl | apply Drop.skip)))))
   ·
    first | replace hc3 := of_decide_eq_true hc3 | replace hc3 := lt_f hc3 | replace hc3 := le_f hc3 | replace hc3 := dec_f hc3 | replace hc3 := nlt_t hc3 | replace hc3 := nle_t hc3 | replace hc3 := ndec_t hc3 | replace hc3 := ndec_f hc3 | replace hc3 := nn_t hc3 | replace hc3 := nn_f hc3 | skip
    obtain ⟨s0, r1, rfl⟩ : ∃ p q, r = p :: q := by cases r with | nil => simp at * | cons p q => exact ⟨p, q, rfl⟩
    refine g_skip ?_
    refine ge_then ?_
    refine g_seq ?_
    refine g_seq ?_
    refine g_region ?_
    refine gl_v rfl (o_move rfl) ?_
    refine gl_v rfl (o_idxS (j := 0) rfl rfl (by simp)) ?_
    refine gl_v rfl (o_loadS rfl (show (List.map U64 (s0 :: r1))[0 * 1]? = some (U64 s0) from rfl)) ?_
    refine gl_v rfl (o_neq rfl rfl) ?_
    refine gl_v rfl (o_move rfl) ?_
    refine gl_join (d := 53) 9 (.bool (!(rouses nt s0))) ?_ (fun jk53 => ?_)
    rotate_left
    ·
     refine gl_g rfl rfl (fun hc4 => ?_) (fun hc4 => ?_) rfl
     ·
      have hc4' := hc4
      first | replace hc4' := of_decide_eq_true hc4' | replace hc4' := lt_f hc4' | replace hc4' := le_f hc4' | replace hc4' := dec_f hc4' | replace hc4' := nlt_t hc4' | replace hc4' := nle_t hc4' | replace hc4' := ndec_t hc4' | replace hc4' := ndec_f hc4' | replace hc4' := nn_t hc4' | replace hc4' := nn_f hc4' | skip
      refine gl_v rfl (o_move rfl) ?_
      refine gl_gT rfl rfl hc4 ?_
      refine gl_v rfl (o_move rfl) ?_
      refine gl_g rfl rfl (fun hc5 => ?_) (fun hc5 => ?_) rfl
      ·
       have hc5' := hc5
       first | replace hc5' := of_decide_eq_true hc5' | replace hc5' := lt_f hc5' | replace hc5' := le_f hc5' | replace hc5' := dec_f hc5' | replace hc5' := nlt_t hc5' | replace hc5' := nle_t hc5' | replace hc5' := ndec_t hc5' | replace hc5' := ndec_f hc5' | replace hc5' := nn_t hc5' | replace hc5' := nn_f hc5' | skip
       refine gl_v rfl (o_move rfl) ?_
       refine gl_gT rfl rfl hc5 ?_
       refine gl_v rfl (o_idxS (j := 0) rfl rfl (by simp)) ?_
       refine gl_gT rfl rfl hc5 ?_
       refine gl_v rfl (o_loadS rfl (show (List.map U64 (s0 :: r1))[0 * 1]? = some (U64 s0) from rfl)) ?_
       refine gl_gT rfl rfl hc5 ?_
       refine gl_v rfl (o_eql rfl rfl) ?_
       refine gl_gT rfl rfl hc4 ?_
       refine gl_v rfl (o_pickT hc5 rfl rfl) ?_
       refine gl_gT rfl rfl hc4 ?_
       refine gl_v rfl (o_not rfl) ?_
       refine gl_v rfl (o_pickT hc4 rfl rfl) ?_
       first | exact jk53 _ (KeepS.top (by repeat (first | exact KeepS.refl _ | refine KeepS.push ?_ rfl)) (jval (by first | rfl | (simp [hc4, hc5, rouses]; done) | simp_all))) | exact gl_imp (To.sat (by repeat (first | exact .nil | exact .done .refl | (apply To.cons; · (repeat (first | exact .head | apply Sel.tail))) | exact .done (by repeat (first | exact .refl | apply Drop.skip))))) (jk53 _ (KeepS.top (by repeat (first | exact KeepS.refl _ | refine KeepS.push ?_ rfl)) (jval (by first | rfl | (simp [hc4, hc5, rouses]; done) | simp_all))))
      ·
       have hc5' := hc5
       first | replace hc5' := of_decide_eq_true hc5' | replace hc5' := lt_f hc5' | replace hc5' := le_f hc5' | replace hc5' := dec_f hc5' | replace hc5' := nlt_t hc5' | replace hc5' := nle_t hc5' | replace hc5' := ndec_t hc5' | replace hc5' := ndec_f hc5' | replace hc5' := nn_t hc5' | replace hc5' := nn_f hc5' | skip
       simp only [putO]
       refine gl_gF rfl rfl hc5 rfl ?_
       refine gl_gF rfl rfl hc5 rfl ?_
       refine gl_gF rfl rfl hc5 rfl ?_
       refine gl_gT rfl rfl hc4 ?_
       refine gl_v rfl (o_pickF hc5 rfl rfl) ?_
       refine gl_gT rfl rfl hc4 ?_
       refine gl_v rfl (o_not rfl) ?_
       refine gl_v rfl (o_pickT hc4 rfl rfl) ?_
       first | exact jk53 _ (KeepS.top (by repeat (first | exact KeepS.refl _ | refine KeepS.push ?_ rfl)) (jval (by first | rfl | (simp [hc4, hc5, rouses]; done) | simp_all))) | exact gl_imp (To.sat (by repeat (first | exact .nil | exact .done .refl | (apply To.cons; · (repeat (first | exact .head | apply Sel.tail))) | exact .done (by repeat (first | exact .refl | apply Drop.skip))))) (jk53 _ (KeepS.top (by repeat (first | exact KeepS.refl _ | refine KeepS.push ?_ rfl)) (jval (by first | rfl | (simp [hc4, hc5, rouses]; done) | simp_all))))
     ·
      have hc4' := hc4
      first | replace hc4' := of_decide_eq_true hc4' | replace hc4' := lt_f hc4' | replace hc4' := le_f hc4' | replace hc4' := dec_f hc4' | replace hc4' := nlt_t hc4' | replace hc4' := nle_t hc4' | replace hc4' := ndec_t hc4' | replace hc4' := ndec_f hc4' | replace hc4' := nn_t hc4' | replace hc4' := nn_f hc4' | skip
      simp only [putO]
      refine gl_gF rfl rfl hc4 rfl ?_
      refine gl_gU rfl rfl rfl ?_
      refine gl_gU rfl rfl rfl ?_
      refine gl_gU rfl rfl rfl ?_
      refine gl_gU rfl rfl rfl ?_
      refine gl_gF rfl rfl hc4 rfl ?_
      refine gl_gF rfl rfl hc4 rfl ?_
      refine gl_v rfl (o_pickF hc4 rfl rfl) ?_
      first | exact jk53 _ (KeepS.top (by repeat (first | exact KeepS.refl _ | refine KeepS.push ?_ rfl)) (jval (by first | rfl | (simp [hc4, rouses]; done) | simp_all))) | exact gl_imp (To.sat (by repeat (first | exact .nil | exact .done .refl | (apply To.cons; · (repeat (first | exact .head | apply Sel.tail))) | exact .done (by repeat (first | exact .refl | apply Drop.skip))))) (jk53 _ (KeepS.top (by repeat (first | exact KeepS.refl _ | refine KeepS.push ?_ rfl)) (jval (by first | rfl | (simp [hc4, rouses]; done) | simp_all))))
    refine gl_nil ?_
    refine ge_then ?_
    refine g_cond rfl (fun hc6 => ?_) (fun hc6 => ?_)
    ·
     first | replace hc6 := of_decide_eq_true hc6 | replace hc6 := lt_f hc6 | replace hc6 := le_f hc6 | replace hc6 := dec_f hc6 | replace hc6 := nlt_t hc6 | replace hc6 := nle_t hc6 | replace hc6 := ndec_t hc6 | replace hc6 := ndec_f hc6 | replace hc6 := nn_t hc6 | replace hc6 := nn_f hc6 | skip
     have hro : rouses nt s0 = false := by simpa using hc6
     refine g_seq ?_
     refine g_region ?_
     refine gl_c rfl (o_call rfl (over_spec 1) (by repeat (first | exact .nil | (apply Part.cons; · (repeat (first | exact .head | apply Sel.tail)))))) ?_
     rintro _ R ⟨_, ⟨rfl, rfl⟩, rfl⟩
     try simp only [List.cons_append, List.nil_append]
     first | refine gl_u (o_storeSA rfl rfl rfl rfl (by simp; omega) (by simp)) ?_ | refine gl_u (o_storeA rfl rfl rfl rfl rfl) ?_
     refine gl_nil ?_
     refine ge_then ?_
     refine g_ret ?_
     refine ge_then_ret ?_
     refine ge_block_ret ?_
     refine ge_then_ret ?_
     refine ge_block_ret ?_
     refine ret1c (.inl rfl) rfl rfl rfl rfl _ (⟨by rw [hp', pair_no hro]; rfl, rfl⟩) (To.sat (by repeat (first | exact .nil | exact .done .refl | (apply To.cons; · (repeat (first | exact .head | apply Sel.tail))) | exact .done (by repeat (first | exact .refl | apply Drop.skip)))))
    ·
     first | replace hc6 := of_decide_eq_true hc6 | replace hc6 := lt_f hc6 | replace hc6 := le_f hc6 | replace hc6 := dec_f hc6 | replace hc6 := nlt_t hc6 | replace hc6 := nle_t hc6 | replace hc6 := ndec_t hc6 | replace hc6 := ndec_f hc6 | replace hc6 := nn_t hc6 | replace hc6 := nn_f hc6 | skip
     have hro : rouses nt s0 = true := by simpa using hc6
     refine g_skip ?_
     refine ge_then ?_
     refine g_seq ?_
     refine g_seq ?_
     refine g_region ?_
     refine gl_v rfl (o_move rfl) ?_
     refine gl_v rfl (o_lenL rfl) ?_
     refine gl_v rfl (o_eql rfl rfl) ?_
     refine gl_nil ?_
     refine ge_then ?_
     refine g_cond rfl (fun hc7 => ?_) (fun hc7 => ?_)
     ·
      first | replace hc7 := of_decide_eq_true hc7 | replace hc7 := lt_f hc7 | replace hc7 := le_f hc7 | replace hc7 := dec_f hc7 | replace hc7 := nlt_t hc7 | replace hc7 := nle_t hc7 | replace hc7 := ndec_t hc7 | replace hc7 := ndec_f hc7 | replace hc7 := nn_t hc7 | replace hc7 := nn_f hc7 | skip
      obtain rfl : r1 = [] := List.eq_nil_of_length_eq_zero (by have h9 := hc7; rw [List.length_cons] at h9; omega)
      refine g_seq ?_
      refine g_treeM [6] [] (.loc 0 (.loc 1 (.loc 2 (.loc 3 (.loc 4 (.loc 5 (.eff 6 .nil .nil))))))) [cel b5 25 [I64 B.b, I64 B.nm, I64 B.nn], A] mixed (by kernel_rfl) ?_
      first | refine gt_v rfl .none rfl (o_fldS rfl) ?_ | refine gt_v rfl .none rfl (o_fld rfl) ?_
      first | refine gt_v rfl .none rfl (o_load rfl rfl) ?_ | refine gt_v rfl .none rfl (o_loadS rfl rfl) ?_ | refine gt_v rfl .none rfl (o_loadC rfl) ?_
      refine gt_v rfl .none rfl (o_move rfl) ?_
      refine gt_v rfl .none rfl (o_idxS (j := 0) rfl rfl (by simp)) ?_
      refine gt_v rfl .none rfl (o_loadS rfl (show (List.map U64 (s0 :: []))[0 * 1]? = some (U64 s0) from rfl)) ?_
      refine gt_v rfl .none rfl (o_build rfl rfl) ?_
      first | refine gt_u rfl .none (o_storeSA rfl rfl rfl rfl (by simp; omega) (by simp)) (fun hG => absurd hG (by decide)) ?_ | refine gt_u rfl .none (o_storeA rfl rfl rfl rfl rfl) (fun hG => absurd hG (by decide)) ?_
      refine gt_nil ?_
      refine ge_then ?_
      refine g_ret ?_
      refine ge_then_ret ?_
      refine ge_block_ret ?_
      refine ge_then_ret ?_
      refine ge_block_ret ?_
      refine ret1c (.inl rfl) rfl rfl rfl rfl _ (⟨by rw [hp']; simp only [pairN, hro, if_true]; rfl, rfl⟩) (To.sat (by repeat (first | exact .nil | exact .done .refl | (apply To.cons; · (repeat (first | exact .head | apply Sel.tail))) | exact .done (by repeat (first | exact .refl | apply Drop.skip)))))
     ·
      first | replace hc7 := of_decide_eq_true hc7 | replace hc7 := lt_f hc7 | replace hc7 := le_f hc7 | replace hc7 := dec_f hc7 | replace hc7 := nlt_t hc7 | replace hc7 := nle_t hc7 | replace hc7 := ndec_t hc7 | replace hc7 := ndec_f hc7 | replace hc7 := nn_t hc7 | replace hc7 := nn_f hc7 | skip
      obtain ⟨x0, r2, rfl⟩ : ∃ p q, r1 = p :: q := by cases r1 with | nil => simp at * | cons p q => exact ⟨p, q, rfl⟩
      refine g_skip ?_
      refine ge_then ?_
      refine g_seq ?_
      refine g_seq ?_
      refine g_region ?_
      refine gl_v rfl (o_move rfl) ?_
      refine gl_v rfl (o_idxS (j := 1) rfl rfl (by simp)) ?_
      refine gl_v rfl (o_loadS rfl (show (List.map U64 (s0 :: x0 :: r2))[1 * 1]? = some (U64 x0) from rfl)) ?_
      refine gl_v rfl (o_eql rfl rfl) ?_
      refine gl_nil ?_
      refine ge_then ?_
      refine g_cond rfl (fun hc8 => ?_) (fun hc8 => ?_)
      ·
       first | replace hc8 := of_decide_eq_true hc8 | replace hc8 := lt_f hc8 | replace hc8 := le_f hc8 | replace hc8 := dec_f hc8 | replace hc8 := nlt_t hc8 | replace hc8 := nle_t hc8 | replace hc8 := ndec_t hc8 | replace hc8 := ndec_f hc8 | replace hc8 := nn_t hc8 | replace hc8 := nn_f hc8 | skip
       have hx1 : x0 = 1 := hc8
       refine g_seq ?_
       refine g_region ?_
       refine gl_c rfl (o_call rfl (over_spec 7) (by repeat (first | exact .nil | (apply Part.cons; · (repeat (first | exact .head | apply Sel.tail)))))) ?_
       rintro _ R ⟨_, ⟨rfl, rfl⟩, rfl⟩
       try simp only [List.cons_append, List.nil_append]
       first | refine gl_u (o_storeSA rfl rfl rfl rfl (by simp; omega) (by simp)) ?_ | refine gl_u (o_storeA rfl rfl rfl rfl rfl) ?_
       refine gl_nil ?_
       refine ge_then ?_
       refine g_ret ?_
       refine ge_then_ret ?_
       refine ge_block_ret ?_
       refine ge_then_ret ?_
       refine ge_block_ret ?_
       refine ret1c (.inl rfl) rfl rfl rfl rfl _ (⟨by rw [hp']; simp only [pairN, hro, if_true, if_pos hx1]; rfl, rfl⟩) (To.sat (by repeat (first | exact .nil | exact .done .refl | (apply To.cons; · (repeat (first | exact .head | apply Sel.tail))) | exact .done (by repeat (first | exact .refl | apply Drop.skip)))))
      ·
       first | replace hc8 := of_decide_eq_true hc8 | replace hc8 := lt_f hc8 | replace hc8 := le_f hc8 | replace hc8 := dec_f hc8 | replace hc8 := nlt_t hc8 | replace hc8 := nle_t hc8 | replace hc8 := ndec_t hc8 | replace hc8 := ndec_f hc8 | replace hc8 := nn_t hc8 | replace hc8 := nn_f hc8 | skip
       have hx1 : x0 ≠ 1 := hc8
       refine g_skip ?_
       refine ge_then ?_
       refine g_region ?_
       refine gl_v rfl (o_move rfl) ?_
       refine gl_v rfl (o_slFrom (i := 2) rfl rfl (by simp)) ?_
       refine gl_v rfl (o_assign rfl) ?_
       refine gl_nil ?_
       refine ge_block ?_
       refine ge_round ((if c' = 2 then a' else a'.map (fun x : Addr => x.add (2 * 1))), c' - 2, r2) ⟨hr'.from (i := 2) (by simp), LI_drop hl' 2, hp'.trans (by simp only [pairN, hro, if_true, if_neg hx1]), by simp at hm'; show r2.length ≤ 100000; omega⟩ (by show r2.length < (s0 :: x0 :: r2).length; simp; omega) (Keep.cons (by show some (Value.slice _ _ _) = some (Value.slice _ _ _); simp) (Keep.cons rfl (Keep.cons rfl (Keep.cons rfl (Keep.nil))))) (To.sat (by repeat (first | exact .nil | exact .done .refl | (apply To.cons; · (repeat (first | exact .head | apply Sel.tail))) | exact .done (by repeat (first | exact .refl | apply Drop.skip)))))

set_option maxRecDepth 8000 in
set_option maxHeartbeats 1000000 in
theorem settle_t (B : PB) (hB : 1 ≤ B.nm ∧ B.nm ≤ 64 ∧ 1 ≤ B.nn ∧ B.nn ≤ 64 ∧ B.b ≤ 60000) (y0 : Int) (a : Option Addr) (c : Nat) (l : List Int) (hl : LI l) (hm : l.length ≤ 90000) (A : Assn) (hr : Rd A a c (y0 :: l)) : FnS Tryz.prog 47 [boxV B, .bool true, .slice a (y0 :: l).length c] [A] (fun u Bs => u = .agg (settleN B true (y0 :: l)).cells.toArray ∧ Bs = [A]) := by
 refine fn_body Tryz.func47 rfl rfl rfl ?_
 intro W0 R
 simp only [List.zipIdx_cons, List.zipIdx_nil, List.map_cons, List.map_nil, Nat.zero_add, Nat.reduceAdd, List.cons_append, List.nil_append]
 have hrb : 1 ≤ B.rn true ∧ B.rn true ≤ 64 ∧ B.rb true ≤ 65536 := by simp [PB.rb, PB.rn]; omega
 have hrm : 1 ≤ B.rn false ∧ B.rn false ≤ 64 ∧ B.rb false ≤ 65536 := by simp [PB.rb, PB.rn]; omega
 obtain ⟨a1, ha1⟩ : ∃ a1, a1 = (if c = 1 then a else a.map (fun x : Addr => x.add (1 * 1))) := ⟨_, rfl⟩
 obtain ⟨c1, hc1'⟩ : ∃ c1, c1 = c - 1 := ⟨_, rfl⟩
 have hr1 : Rd A a1 c1 l := by rw [ha1, hc1']; exact hr.from (i := 1) (by simp)
 refine g_seq ?_
 refine g_region ?_
 refine gl_n rfl (o_boxA rfl) ?_
 rintro _ _ ⟨b3, rfl, rfl⟩
 refine gl_n rfl (o_alloc) ?_
 rintro _ _ ⟨b6, rfl, rfl⟩
 refine gl_nil ?_
 refine ge_then ?_
 refine g_seq ?_
 refine g_region ?_
 refine gl_v rfl (o_assign rfl) ?_
 refine gl_nil ?_
 refine ge_then ?_
 refine g_seq ?_
 refine g_seq ?_
 refine g_region ?_
 refine gl_v rfl (o_move rfl) ?_
 refine gl_nil ?_
 refine ge_then ?_
 refine g_cond_true (rfl) ?_
 refine g_region ?_
 refine gl_v rfl (o_assign rfl) ?_
 refine gl_nil ?_
 refine ge_then ?_
 refine g_seq ?_
 refine g_seq ?_
 refine g_region ?_
 refine gl_v rfl (o_move rfl) ?_
 refine gl_v rfl (o_lenL rfl) ?_
 refine gl_v rfl (o_is (c := false) (by first | rfl | (simp; omega)) (o_eql rfl rfl)) ?_
 refine gl_nil ?_
 refine ge_then ?_
 refine g_cond_false rfl ?_
 refine g_skip ?_
 refine ge_then ?_
 refine g_seq ?_
 refine g_region ?_
 refine gl_v rfl (o_move rfl) ?_
 refine gl_v rfl (o_slFrom (i := 1) rfl rfl (by simp)) ?_
 rw [← ha1, ← hc1', show (y0 :: l).length - 1 = l.length by simp]
 refine gl_v rfl (o_assign rfl) ?_
 refine gl_nil ?_
 refine ge_then ?_
 refine g_seq ?_
 refine g_region ?_
 first | refine gl_v rfl (o_loadSA rfl rfl rfl) ?_ | refine gl_v rfl (o_loadA rfl rfl rfl) ?_
 refine gl_c rfl (o_call rfl (noteR_spec B hB) (by repeat (first | exact .nil | (apply Part.cons; · (repeat (first | exact .head | apply Sel.tail)))))) ?_
 rintro _ R ⟨_, ⟨rfl, rfl⟩, rfl⟩
 try simp only [List.cons_append, List.nil_append]
 refine gl_v rfl (o_move rfl) ?_
 refine gl_c rfl (o_call rfl (rpart_spec (B.rb true) (B.rn true) hrb.1 hrb.2.1 hrb.2.2 5 0 (by decide) a1 c1 l hl (by omega) A hr1) (by repeat (first | exact .nil | (apply Part.cons; · (repeat (first | exact .head | apply Sel.tail)))))) ?_
 rintro _ R ⟨_, ⟨rfl, rfl⟩, rfl⟩
 try simp only [List.cons_append, List.nil_append]
 rcases hP1 : partG (nextN (B.rb true) (B.rn true) 5 0) [] l with ⟨⟨ov1, wh1, ce1, wa1, wb1, ou1, va1, ti1⟩, us1⟩
 have hus1 := part_le (nextN (B.rb true) (B.rn true) 5 0) l []
 rw [hP1] at hus1
 simp only [List.length_nil, Nat.zero_add] at hus1
 simp only [Wt.cells]
 refine gl_v rfl (o_move rfl) ?_
 refine gl_v rfl (o_extract rfl rfl) ?_
 refine gl_v rfl (o_extract rfl rfl) ?_
 refine gl_n rfl (o_alloc) ?_
 rintro _ _ ⟨b9, rfl, rfl⟩
 first | refine gl_u (o_storeSA rfl rfl rfl rfl (by simp; omega) (by simp)) ?_ | refine gl_u (o_storeA rfl rfl rfl rfl rfl) ?_
 refine gl_v rfl (o_assign rfl) ?_
 refine gl_nil ?_
 refine ge_then ?_
 refine g_seq ?_
 refine g_seq ?_
 refine g_region ?_
 first | refine gl_v rfl (o_fldS rfl) ?_ | refine gl_v rfl (o_fld rfl) ?_
 first | refine gl_v rfl (o_load rfl rfl) ?_ | refine gl_v rfl (o_loadS rfl rfl) ?_ | refine gl_v rfl (o_loadC rfl) ?_
 refine gl_v rfl (o_not rfl) ?_
 refine gl_nil ?_
 refine ge_then ?_
 refine g_cond rfl (fun hc1 => ?_) (fun hc1 => ?_)
 ·
  first | replace hc1 := of_decide_eq_true hc1 | replace hc1 := lt_f hc1 | replace hc1 := le_f hc1 | replace hc1 := dec_f hc1 | replace hc1 := nlt_t hc1 | replace hc1 := nle_t hc1 | replace hc1 := ndec_t hc1 | replace hc1 := ndec_f hc1 | replace hc1 := nn_t hc1 | replace hc1 := nn_f hc1 | skip
  have hov : ov1 = false := by simpa using hc1
  subst hov
  refine g_seq ?_
  refine g_region ?_
  first | refine gl_v rfl (o_loadSA rfl rfl rfl) ?_ | refine gl_v rfl (o_loadA rfl rfl rfl) ?_
  first | refine gl_u (o_storeSA rfl rfl rfl rfl (by simp; omega) (by simp)) ?_ | refine gl_u (o_storeA rfl rfl rfl rfl rfl) ?_
  refine gl_nil ?_
  refine ge_then ?_
  refine g_ret ?_
  refine ge_then_ret ?_
  refine ret1c (.inl rfl) rfl rfl rfl rfl _ (⟨by show _ = Value.agg (noteN B true l).cells.toArray; rw [note_a hP1 rfl]; rfl, rfl⟩) (To.sat (by repeat (first | exact .nil | exact .done .refl | (apply To.cons; · (repeat (first | exact .head | apply Sel.tail))) | exact .done (by repeat (first | exact .refl | apply Drop.skip)))))
 ·
  first | replace hc1 := of_decide_eq_true hc1 | replace hc1 := lt_f hc1 | replace hc1 := le_f hc1 | replace hc1 := dec_f hc1 | replace hc1 := nlt_t hc1 | replace hc1 := nle_t hc1 | replace hc1 := ndec_t hc1 | replace hc1 := ndec_f hc1 | replace hc1 := nn_t hc1 | replace hc1 := nn_f hc1 | skip
  have hov : ov1 = true := by simpa using hc1
  subst hov
  refine g_skip ?_
  refine ge_then ?_
  refine g_seq ?_
  obtain ⟨a2, ha2⟩ : ∃ a2, a2 = (if c1 = us1 then a1 else a1.map (fun x : Addr => x.add (us1 * 1))) := ⟨_, rfl⟩
  obtain ⟨c2, hc2'⟩ : ∃ c2, c2 = c1 - us1 := ⟨_, rfl⟩
  obtain ⟨l2, hl2⟩ : ∃ l2, l2 = l.drop us1 := ⟨_, rfl⟩
  have hr2 : Rd A a2 c2 l2 := by rw [ha2, hc2', hl2]; exact hr1.from hus1
  have hl2L : LI l2 := by rw [hl2]; exact LI_drop hl us1
  have hm2 : l2.length ≤ 90000 := by rw [hl2, List.length_drop]; omega
  refine g_region ?_
  refine gl_v rfl (o_move rfl) ?_
  refine gl_v rfl (o_move rfl) ?_
  refine gl_v rfl (o_slFrom (i := us1) rfl rfl hus1) ?_
  rw [← ha2, ← hc2', show l.length - us1 = l2.length by rw [hl2, List.length_drop]]
  refine gl_v rfl (o_assign rfl) ?_
  refine gl_nil ?_
  refine ge_then ?_
  refine g_seq ?_
  refine g_seq ?_
  by_cases h4 : ou1 = 4
  ·
   refine g_region ?_
   first | refine gl_v rfl (o_fldS rfl) ?_ | refine gl_v rfl (o_fld rfl) ?_
   first | refine gl_v rfl (o_load rfl rfl) ?_ | refine gl_v rfl (o_loadS rfl rfl) ?_ | refine gl_v rfl (o_loadC rfl) ?_
   refine gl_v rfl (o_is (c := true) (by simp [h4]) (o_eql rfl rfl)) ?_
   refine gl_v rfl (o_move rfl) ?_
   refine gl_gT rfl rfl rfl ?_
   refine gl_v rfl (o_move rfl) ?_
   refine gl_v rfl (o_pickT rfl rfl rfl) ?_
   refine gl_nil ?_
   refine ge_then ?_
   refine g_cond_true rfl ?_
   refine g_seq ?_
   refine g_region ?_
   refine gl_c rfl (o_call rfl (over_spec 4) (by repeat (first | exact .nil | (apply Part.cons; · (repeat (first | exact .head | apply Sel.tail)))))) ?_
   rintro _ R ⟨_, ⟨rfl, rfl⟩, rfl⟩
   try simp only [List.cons_append, List.nil_append]
   first | refine gl_u (o_storeSA rfl rfl rfl rfl (by simp; omega) (by simp)) ?_ | refine gl_u (o_storeA rfl rfl rfl rfl rfl) ?_
   refine gl_nil ?_
   refine ge_then ?_
   refine g_ret ?_
   refine ge_then_ret ?_
   refine ret1c (.inl rfl) rfl rfl rfl rfl _ (⟨by show _ = Value.agg (noteN B true l).cells.toArray; rw [note_b hP1 rfl h4]; rfl, rfl⟩) (To.sat (by repeat (first | exact .nil | exact .done .refl | (apply To.cons; · (repeat (first | exact .head | apply Sel.tail))) | exact .done (by repeat (first | exact .refl | apply Drop.skip)))))
  ·
   refine g_region ?_
   first | refine gl_v rfl (o_fldS rfl) ?_ | refine gl_v rfl (o_fld rfl) ?_
   first | refine gl_v rfl (o_load rfl rfl) ?_ | refine gl_v rfl (o_loadS rfl rfl) ?_ | refine gl_v rfl (o_loadC rfl) ?_
   refine gl_v rfl (o_is (c := false) (by simp [h4]) (o_eql rfl rfl)) ?_
   refine gl_v rfl (o_move rfl) ?_
   refine gl_gF rfl rfl rfl rfl ?_
   refine gl_v rfl (o_pickF rfl rfl rfl) ?_
   refine gl_nil ?_
   refine ge_then ?_
   refine g_cond_false rfl ?_
   refine g_skip ?_
   refine ge_then ?_
   refine g_seq ?_
   refine g_seq ?_
   refine g_region ?_
   first | refine gl_v rfl (o_fldS rfl) ?_ | refine gl_v rfl (o_fld rfl) ?_
   first | refine gl_v rfl (o_load rfl rfl) ?_ | refine gl_v rfl (o_loadS rfl rfl) ?_ | refine gl_v rfl (o_loadC rfl) ?_
   refine gl_v rfl (o_is (c := false) (by simp [h4]) (o_eql rfl rfl)) ?_
   refine gl_nil ?_
   refine ge_then ?_
   refine g_cond_false rfl ?_
   refine g_skip ?_
   refine ge_then ?_
   refine g_seq ?_
   refine g_seq ?_
   refine g_region ?_
   refine gl_v rfl (o_move rfl) ?_
   refine gl_v rfl (o_lenL rfl) ?_
   refine gl_v rfl (o_eql rfl rfl) ?_
   refine gl_nil ?_
   refine ge_then ?_
   refine g_cond rfl (fun hc2 => ?_) (fun hc2 => ?_)
   ·
    first | replace hc2 := of_decide_eq_true hc2 | replace hc2 := lt_f hc2 | replace hc2 := le_f hc2 | replace hc2 := dec_f hc2 | replace hc2 := nlt_t hc2 | replace hc2 := nle_t hc2 | replace hc2 := ndec_t hc2 | replace hc2 := ndec_f hc2 | replace hc2 := nn_t hc2 | replace hc2 := nn_f hc2 | skip
    obtain rfl : l2 = [] := List.eq_nil_of_length_eq_zero (by have h9 := hc2; omega)
    refine g_seq ?_
    refine g_region ?_
    first | refine gl_v rfl (o_fldS rfl) ?_ | refine gl_v rfl (o_fld rfl) ?_
    first | refine gl_v rfl (o_load rfl rfl) ?_ | refine gl_v rfl (o_loadS rfl rfl) ?_ | refine gl_v rfl (o_loadC rfl) ?_
    refine gl_v rfl (o_move rfl) ?_
    refine gl_v rfl (o_build rfl rfl) ?_
    first | refine gl_u (o_storeSA rfl rfl rfl rfl (by simp; omega) (by simp)) ?_ | refine gl_u (o_storeA rfl rfl rfl rfl rfl) ?_
    refine gl_nil ?_
    refine ge_then ?_
    refine g_ret ?_
    refine ge_then_ret ?_
    refine ret1c (.inl rfl) rfl rfl rfl rfl _ (⟨by show _ = Value.agg (noteN B true l).cells.toArray; rw [note_d hP1 rfl h4, ← hl2]; rfl, rfl⟩) (To.sat (by repeat (first | exact .nil | exact .done .refl | (apply To.cons; · (repeat (first | exact .head | apply Sel.tail))) | exact .done (by repeat (first | exact .refl | apply Drop.skip)))))
   ·
    first | replace hc2 := of_decide_eq_true hc2 | replace hc2 := lt_f hc2 | replace hc2 := le_f hc2 | replace hc2 := dec_f hc2 | replace hc2 := nlt_t hc2 | replace hc2 := nle_t hc2 | replace hc2 := ndec_t hc2 | replace hc2 := ndec_f hc2 | replace hc2 := nn_t hc2 | replace hc2 := nn_f hc2 | skip
    obtain ⟨z0, z1, rfl⟩ : ∃ p q, l2 = p :: q := by cases l2 with | nil => simp at * | cons p q => exact ⟨p, q, rfl⟩
    haveI := hr2.inst
    refine g_skip ?_
    refine ge_then ?_
    refine g_seq ?_
    refine g_seq ?_
    refine g_region ?_
    refine gl_v rfl (o_move rfl) ?_
    refine gl_v rfl (o_idxS (j := 0) rfl rfl (by simp)) ?_
    refine gl_v rfl (o_loadS rfl (show (List.map U64 (z0 :: z1))[0 * 1]? = some (U64 z0) from rfl)) ?_
    refine gl_v rfl (o_eql rfl rfl) ?_
    refine gl_nil ?_
    refine ge_then ?_
    refine g_cond rfl (fun hc3 => ?_) (fun hc3 => ?_)
    ·
     first | replace hc3 := of_decide_eq_true hc3 | replace hc3 := lt_f hc3 | replace hc3 := le_f hc3 | replace hc3 := dec_f hc3 | replace hc3 := nlt_t hc3 | replace hc3 := nle_t hc3 | replace hc3 := ndec_t hc3 | replace hc3 := ndec_f hc3 | replace hc3 := nn_t hc3 | replace hc3 := nn_f hc3 | skip
     have hz1 : z0 = 1 := hc3
     refine g_seq ?_
     refine g_region ?_
     refine gl_c rfl (o_call rfl (over_spec 8) (by repeat (first | exact .nil | (apply Part.cons; · (repeat (first | exact .head | apply Sel.tail)))))) ?_
     rintro _ R ⟨_, ⟨rfl, rfl⟩, rfl⟩
     try simp only [List.cons_append, List.nil_append]
     first | refine gl_u (o_storeSA rfl rfl rfl rfl (by simp; omega) (by simp)) ?_ | refine gl_u (o_storeA rfl rfl rfl rfl rfl) ?_
     refine gl_nil ?_
     refine ge_then ?_
     refine g_ret ?_
     refine ge_then_ret ?_
     refine ret1c (.inl rfl) rfl rfl rfl rfl _ (⟨by show _ = Value.agg (noteN B true l).cells.toArray; rw [note_d hP1 rfl h4, ← hl2, tail_1 hz1]; rfl, rfl⟩) (To.sat (by repeat (first | exact .nil | exact .done .refl | (apply To.cons; · (repeat (first | exact .head | apply Sel.tail))) | exact .done (by repeat (first | exact .refl | apply Drop.skip)))))
    ·
     first | replace hc3 := of_decide_eq_true hc3 | replace hc3 := lt_f hc3 | replace hc3 := le_f hc3 | replace hc3 := dec_f hc3 | replace hc3 := nlt_t hc3 | replace hc3 := nle_t hc3 | replace hc3 := ndec_t hc3 | replace hc3 := ndec_f hc3 | replace hc3 := nn_t hc3 | replace hc3 := nn_f hc3 | skip
     have hz1 : z0 ≠ 1 := hc3
     refine g_skip ?_
     refine ge_then ?_
     refine g_seq ?_
     refine g_region ?_
     refine gl_c rfl (o_call rfl (over_spec 1) (by repeat (first | exact .nil | (apply Part.cons; · (repeat (first | exact .head | apply Sel.tail)))))) ?_
     rintro _ R ⟨_, ⟨rfl, rfl⟩, rfl⟩
     try simp only [List.cons_append, List.nil_append]
     first | refine gl_u (o_storeSA rfl rfl rfl rfl (by simp; omega) (by simp)) ?_ | refine gl_u (o_storeA rfl rfl rfl rfl rfl) ?_
     refine gl_nil ?_
     refine ge_then ?_
     refine g_ret ?_
     refine ret1c (.inl rfl) rfl rfl rfl rfl _ (⟨by show _ = Value.agg (noteN B true l).cells.toArray; rw [note_d hP1 rfl h4, ← hl2, tail_2 hz1]; rfl, rfl⟩) (To.sat (by repeat (first | exact .nil | exact .done .refl | (apply To.cons; · (repeat (first | exact .head | apply Sel.tail))) | exact .done (by repeat (first | exact .refl | apply Drop.skip)))))

set_option maxRecDepth 8000 in
set_option maxHeartbeats 1000000 in
theorem settle_f (B : PB) (hB : 1 ≤ B.nm ∧ B.nm ≤ 64 ∧ 1 ≤ B.nn ∧ B.nn ≤ 64 ∧ B.b ≤ 60000) (y0 : Int) (a : Option Addr) (c : Nat) (l : List Int) (hl : LI l) (hm : l.length ≤ 90000) (A : Assn) (hr : Rd A a c (y0 :: l)) : FnS Tryz.prog 47 [boxV B, .bool false, .slice a (y0 :: l).length c] [A] (fun u Bs => u = .agg (settleN B false (y0 :: l)).cells.toArray ∧ Bs = [A]) := by
 refine fn_body Tryz.func47 rfl rfl rfl ?_
 intro W0 R
 simp only [List.zipIdx_cons, List.zipIdx_nil, List.map_cons, List.map_nil, Nat.zero_add, Nat.reduceAdd, List.cons_append, List.nil_append]
 have hrb : 1 ≤ B.rn true ∧ B.rn true ≤ 64 ∧ B.rb true ≤ 65536 := by simp [PB.rb, PB.rn]; omega
 have hrm : 1 ≤ B.rn false ∧ B.rn false ≤ 64 ∧ B.rb false ≤ 65536 := by simp [PB.rb, PB.rn]; omega
 obtain ⟨a1, ha1⟩ : ∃ a1, a1 = (if c = 1 then a else a.map (fun x : Addr => x.add (1 * 1))) := ⟨_, rfl⟩
 obtain ⟨c1, hc1'⟩ : ∃ c1, c1 = c - 1 := ⟨_, rfl⟩
 have hr1 : Rd A a1 c1 l := by rw [ha1, hc1']; exact hr.from (i := 1) (by simp)
 refine g_seq ?_
 refine g_region ?_
 refine gl_n rfl (o_boxA rfl) ?_
 rintro _ _ ⟨b3, rfl, rfl⟩
 refine gl_n rfl (o_alloc) ?_
 rintro _ _ ⟨b6, rfl, rfl⟩
 refine gl_nil ?_
 refine ge_then ?_
 refine g_seq ?_
 refine g_region ?_
 refine gl_v rfl (o_assign rfl) ?_
 refine gl_nil ?_
 refine ge_then ?_
 refine g_seq ?_
 refine g_seq ?_
 refine g_region ?_
 refine gl_v rfl (o_move rfl) ?_
 refine gl_nil ?_
 refine ge_then ?_
 refine g_cond_false (rfl) ?_
 refine g_skip ?_
 refine ge_then ?_
 refine g_seq ?_
 refine g_seq ?_
 refine g_region ?_
 refine gl_v rfl (o_move rfl) ?_
 refine gl_v rfl (o_lenL rfl) ?_
 refine gl_v rfl (o_is (c := false) (by first | rfl | (simp; omega)) (o_eql rfl rfl)) ?_
 refine gl_nil ?_
 refine ge_then ?_
 refine g_cond_false rfl ?_
 refine g_skip ?_
 refine ge_then ?_
 refine g_seq ?_
 refine g_region ?_
 refine gl_v rfl (o_move rfl) ?_
 refine gl_v rfl (o_slFrom (i := 1) rfl rfl (by simp)) ?_
 rw [← ha1, ← hc1', show (y0 :: l).length - 1 = l.length by simp]
 refine gl_v rfl (o_assign rfl) ?_
 refine gl_nil ?_
 refine ge_then ?_
 refine g_seq ?_
 refine g_region ?_
 first | refine gl_v rfl (o_loadSA rfl rfl rfl) ?_ | refine gl_v rfl (o_loadA rfl rfl rfl) ?_
 refine gl_c rfl (o_call rfl (noteR_spec B hB) (by repeat (first | exact .nil | (apply Part.cons; · (repeat (first | exact .head | apply Sel.tail)))))) ?_
 rintro _ R ⟨_, ⟨rfl, rfl⟩, rfl⟩
 try simp only [List.cons_append, List.nil_append]
 refine gl_v rfl (o_move rfl) ?_
 refine gl_c rfl (o_call rfl (rpart_spec (B.rb true) (B.rn true) hrb.1 hrb.2.1 hrb.2.2 5 0 (by decide) a1 c1 l hl (by omega) A hr1) (by repeat (first | exact .nil | (apply Part.cons; · (repeat (first | exact .head | apply Sel.tail)))))) ?_
 rintro _ R ⟨_, ⟨rfl, rfl⟩, rfl⟩
 try simp only [List.cons_append, List.nil_append]
 rcases hP1 : partG (nextN (B.rb true) (B.rn true) 5 0) [] l with ⟨⟨ov1, wh1, ce1, wa1, wb1, ou1, va1, ti1⟩, us1⟩
 have hus1 := part_le (nextN (B.rb true) (B.rn true) 5 0) l []
 rw [hP1] at hus1
 simp only [List.length_nil, Nat.zero_add] at hus1
 simp only [Wt.cells]
 refine gl_v rfl (o_move rfl) ?_
 refine gl_v rfl (o_extract rfl rfl) ?_
 refine gl_v rfl (o_extract rfl rfl) ?_
 refine gl_n rfl (o_alloc) ?_
 rintro _ _ ⟨b9, rfl, rfl⟩
 first | refine gl_u (o_storeSA rfl rfl rfl rfl (by simp; omega) (by simp)) ?_ | refine gl_u (o_storeA rfl rfl rfl rfl rfl) ?_
 refine gl_v rfl (o_assign rfl) ?_
 refine gl_nil ?_
 refine ge_then ?_
 refine g_seq ?_
 refine g_seq ?_
 refine g_region ?_
 first | refine gl_v rfl (o_fldS rfl) ?_ | refine gl_v rfl (o_fld rfl) ?_
 first | refine gl_v rfl (o_load rfl rfl) ?_ | refine gl_v rfl (o_loadS rfl rfl) ?_ | refine gl_v rfl (o_loadC rfl) ?_
 refine gl_v rfl (o_not rfl) ?_
 refine gl_nil ?_
 refine ge_then ?_
 refine g_cond rfl (fun hc1 => ?_) (fun hc1 => ?_)
 ·
  first | replace hc1 := of_decide_eq_true hc1 | replace hc1 := lt_f hc1 | replace hc1 := le_f hc1 | replace hc1 := dec_f hc1 | replace hc1 := nlt_t hc1 | replace hc1 := nle_t hc1 | replace hc1 := ndec_t hc1 | replace hc1 := ndec_f hc1 | replace hc1 := nn_t hc1 | replace hc1 := nn_f hc1 | skip
  have hov : ov1 = false := by simpa using hc1
  subst hov
  refine g_seq ?_
  refine g_region ?_
  first | refine gl_v rfl (o_loadSA rfl rfl rfl) ?_ | refine gl_v rfl (o_loadA rfl rfl rfl) ?_
  first | refine gl_u (o_storeSA rfl rfl rfl rfl (by simp; omega) (by simp)) ?_ | refine gl_u (o_storeA rfl rfl rfl rfl rfl) ?_
  refine gl_nil ?_
  refine ge_then ?_
  refine g_ret ?_
  refine ge_then_ret ?_
  refine ret1c (.inl rfl) rfl rfl rfl rfl _ (⟨by show _ = Value.agg (noteN B false l).cells.toArray; rw [note_a hP1 rfl]; rfl, rfl⟩) (To.sat (by repeat (first | exact .nil | exact .done .refl | (apply To.cons; · (repeat (first | exact .head | apply Sel.tail))) | exact .done (by repeat (first | exact .refl | apply Drop.skip)))))
 ·
  first | replace hc1 := of_decide_eq_true hc1 | replace hc1 := lt_f hc1 | replace hc1 := le_f hc1 | replace hc1 := dec_f hc1 | replace hc1 := nlt_t hc1 | replace hc1 := nle_t hc1 | replace hc1 := ndec_t hc1 | replace hc1 := ndec_f hc1 | replace hc1 := nn_t hc1 | replace hc1 := nn_f hc1 | skip
  have hov : ov1 = true := by simpa using hc1
  subst hov
  refine g_skip ?_
  refine ge_then ?_
  refine g_seq ?_
  obtain ⟨a2, ha2⟩ : ∃ a2, a2 = (if c1 = us1 then a1 else a1.map (fun x : Addr => x.add (us1 * 1))) := ⟨_, rfl⟩
  obtain ⟨c2, hc2'⟩ : ∃ c2, c2 = c1 - us1 := ⟨_, rfl⟩
  obtain ⟨l2, hl2⟩ : ∃ l2, l2 = l.drop us1 := ⟨_, rfl⟩
  have hr2 : Rd A a2 c2 l2 := by rw [ha2, hc2', hl2]; exact hr1.from hus1
  have hl2L : LI l2 := by rw [hl2]; exact LI_drop hl us1
  have hm2 : l2.length ≤ 90000 := by rw [hl2, List.length_drop]; omega
  refine g_region ?_
  refine gl_v rfl (o_move rfl) ?_
  refine gl_v rfl (o_move rfl) ?_
  refine gl_v rfl (o_slFrom (i := us1) rfl rfl hus1) ?_
  rw [← ha2, ← hc2', show l.length - us1 = l2.length by rw [hl2, List.length_drop]]
  refine gl_v rfl (o_assign rfl) ?_
  refine gl_nil ?_
  refine ge_then ?_
  refine g_seq ?_
  refine g_seq ?_
  by_cases h4 : ou1 = 4
  ·
   refine g_region ?_
   first | refine gl_v rfl (o_fldS rfl) ?_ | refine gl_v rfl (o_fld rfl) ?_
   first | refine gl_v rfl (o_load rfl rfl) ?_ | refine gl_v rfl (o_loadS rfl rfl) ?_ | refine gl_v rfl (o_loadC rfl) ?_
   refine gl_v rfl (o_is (c := true) (by simp [h4]) (o_eql rfl rfl)) ?_
   refine gl_v rfl (o_move rfl) ?_
   refine gl_gT rfl rfl rfl ?_
   refine gl_v rfl (o_move rfl) ?_
   refine gl_v rfl (o_pickT rfl rfl rfl) ?_
   refine gl_nil ?_
   refine ge_then ?_
   refine g_cond_false rfl ?_
   refine g_skip ?_
   refine ge_then ?_
   refine g_seq ?_
   refine g_seq ?_
   refine g_region ?_
   first | refine gl_v rfl (o_fldS rfl) ?_ | refine gl_v rfl (o_fld rfl) ?_
   first | refine gl_v rfl (o_load rfl rfl) ?_ | refine gl_v rfl (o_loadS rfl rfl) ?_ | refine gl_v rfl (o_loadC rfl) ?_
   refine gl_v rfl (o_is (c := true) (by simp [h4]) (o_eql rfl rfl)) ?_
   refine gl_nil ?_
   refine ge_then ?_
   refine g_cond_true rfl ?_
   refine g_cut (fun act wo => ∃ (ov2 : Bool) (wh2 ce2 wa2 wb2 ou2 va2 ti2 : Int) (us2 : Nat), (partG (nextN (B.rb false) (B.rn false) 5 0) [] l2 = (⟨ov2, wh2, ce2, wa2, wb2, ou2, va2, ti2⟩, us2) ∧ us2 ≤ l2.length) ∧ HasSl Tryz.f47.ntmps [(10, I64 us2), (9, ptr b9 0), (8, .slice a2 l2.length c2), (7, U64 0), (6, ptr b6 0), (3, ptr b3 0)] act ∧ St W0 (cel b9 56 [.bool ov2, I64 wh2, I64 ce2, U64 wa2, U64 wb2, I64 ou2, U64 va2, U64 ti2] :: cel b6 56 [.bool false, I64 0, I64 0, U64 0, U64 0, I64 0, U64 0, U64 0] :: cel b3 25 [I64 B.b, I64 B.nm, I64 B.nn] :: A :: R) wo) ?_ ?_
   ·
    refine g_region ?_
    first | refine gl_v rfl (o_loadSA rfl rfl rfl) ?_ | refine gl_v rfl (o_loadA rfl rfl rfl) ?_
    refine gl_c rfl (o_call rfl (mailR_spec B hB) (by repeat (first | exact .nil | (apply Part.cons; · (repeat (first | exact .head | apply Sel.tail)))))) ?_
    rintro _ R ⟨_, ⟨rfl, rfl⟩, rfl⟩
    try simp only [List.cons_append, List.nil_append]
    refine gl_v rfl (o_move rfl) ?_
    refine gl_c rfl (o_call rfl (rpart_spec (B.rb false) (B.rn false) hrm.1 hrm.2.1 hrm.2.2 5 0 (by decide) a2 c2 l2 hl2L (by omega) A hr2) (by repeat (first | exact .nil | (apply Part.cons; · (repeat (first | exact .head | apply Sel.tail)))))) ?_
    rintro _ R ⟨_, ⟨rfl, rfl⟩, rfl⟩
    try simp only [List.cons_append, List.nil_append]
    rcases hP2 : partG (nextN (B.rb false) (B.rn false) 5 0) [] l2 with ⟨⟨ov2, wh2, ce2, wa2, wb2, ou2, va2, ti2⟩, us2⟩
    have hus2 := part_le (nextN (B.rb false) (B.rn false) 5 0) l2 []
    rw [hP2] at hus2
    simp only [List.length_nil, Nat.zero_add] at hus2
    simp only [Wt.cells]
    refine gl_v rfl (o_move rfl) ?_
    refine gl_v rfl (o_extract rfl rfl) ?_
    refine gl_v rfl (o_extract rfl rfl) ?_
    first | refine gl_u (o_storeSA rfl rfl rfl rfl (by simp; omega) (by simp)) ?_ | refine gl_u (o_storeA rfl rfl rfl rfl rfl) ?_
    refine gl_v rfl (o_assign rfl) ?_
    refine gl_nil ?_
    exact fun act wo hsl st => ⟨ov2, wh2, ce2, wa2, wb2, ou2, va2, ti2, us2, ⟨rfl, hus2⟩, hsl.keep (Keep.cons rfl (Keep.cons rfl (Keep.cons rfl (Keep.cons rfl (Keep.cons rfl (Keep.cons rfl (Keep.nil))))))), st.imp (To.sat (by repeat (first | exact .nil | exact .done .refl | (apply To.cons; · (repeat (first | exact .head | apply Sel.tail))) | exact .done (by repeat (first | exact .refl | apply Drop.skip)))))⟩
   ·
    rintro act wo ⟨ov2, wh2, ce2, wa2, wb2, ou2, va2, ti2, us2, ⟨hP2, hus2⟩, hsl, st⟩
    refine g_of ?_ hsl st
    clear hsl st act wo
    refine g_seq ?_
    refine g_seq ?_
    refine g_region ?_
    first | refine gl_v rfl (o_fldS rfl) ?_ | refine gl_v rfl (o_fld rfl) ?_
    first | refine gl_v rfl (o_load rfl rfl) ?_ | refine gl_v rfl (o_loadS rfl rfl) ?_ | refine gl_v rfl (o_loadC rfl) ?_
    refine gl_v rfl (o_not rfl) ?_
    refine gl_nil ?_
    refine ge_then ?_
    refine g_cond rfl (fun hc2 => ?_) (fun hc2 => ?_)
    ·
     first | replace hc2 := of_decide_eq_true hc2 | replace hc2 := lt_f hc2 | replace hc2 := le_f hc2 | replace hc2 := dec_f hc2 | replace hc2 := nlt_t hc2 | replace hc2 := nle_t hc2 | replace hc2 := ndec_t hc2 | replace hc2 := ndec_f hc2 | replace hc2 := nn_t hc2 | replace hc2 := nn_f hc2 | skip
     have hov : ov2 = false := by simpa using hc2
     subst hov
     refine g_seq ?_
     refine g_region ?_
     first | refine gl_v rfl (o_loadSA rfl rfl rfl) ?_ | refine gl_v rfl (o_loadA rfl rfl rfl) ?_
     first | refine gl_u (o_storeSA rfl rfl rfl rfl (by simp; omega) (by simp)) ?_ | refine gl_u (o_storeA rfl rfl rfl rfl rfl) ?_
     refine gl_nil ?_
     refine ge_then ?_
     refine g_ret ?_
     refine ge_then_ret ?_
     refine ge_then_ret ?_
     refine ret1c (.inl rfl) rfl rfl rfl rfl _ (⟨by show _ = Value.agg (noteN B false l).cells.toArray; rw [note_c hP1 rfl h4, ← hl2, mail_a hP2 rfl]; rfl, rfl⟩) (To.sat (by repeat (first | exact .nil | exact .done .refl | (apply To.cons; · (repeat (first | exact .head | apply Sel.tail))) | exact .done (by repeat (first | exact .refl | apply Drop.skip)))))
    ·
     first | replace hc2 := of_decide_eq_true hc2 | replace hc2 := lt_f hc2 | replace hc2 := le_f hc2 | replace hc2 := dec_f hc2 | replace hc2 := nlt_t hc2 | replace hc2 := nle_t hc2 | replace hc2 := ndec_t hc2 | replace hc2 := ndec_f hc2 | replace hc2 := nn_t hc2 | replace hc2 := nn_f hc2 | skip
     have hov : ov2 = true := by simpa using hc2
     subst hov
     refine g_skip ?_
     refine ge_then ?_
     refine g_seq ?_
     obtain ⟨a3, ha3⟩ : ∃ a3, a3 = (if c2 = us2 then a2 else a2.map (fun x : Addr => x.add (us2 * 1))) := ⟨_, rfl⟩
     obtain ⟨c3, hc3'⟩ : ∃ c3, c3 = c2 - us2 := ⟨_, rfl⟩
     obtain ⟨l3, hl3⟩ : ∃ l3, l3 = l2.drop us2 := ⟨_, rfl⟩
     have hr3 : Rd A a3 c3 l3 := by rw [ha3, hc3', hl3]; exact hr2.from hus2
     refine g_region ?_
     refine gl_v rfl (o_move rfl) ?_
     refine gl_v rfl (o_move rfl) ?_
     refine gl_v rfl (o_slFrom (i := us2) rfl rfl hus2) ?_
     rw [← ha3, ← hc3', show l2.length - us2 = l3.length by rw [hl3, List.length_drop]]
     refine gl_v rfl (o_assign rfl) ?_
     refine gl_nil ?_
     refine ge_then ?_
     refine g_seq ?_
     refine g_region ?_
     first | refine gl_v rfl (o_fldS rfl) ?_ | refine gl_v rfl (o_fld rfl) ?_
     first | refine gl_v rfl (o_load rfl rfl) ?_ | refine gl_v rfl (o_loadS rfl rfl) ?_ | refine gl_v rfl (o_loadC rfl) ?_
     refine gl_v rfl (o_eql rfl rfl) ?_
     refine gl_nil ?_
     refine ge_then ?_
     refine g_cond rfl (fun hc3 => ?_) (fun hc3 => ?_)
     ·
      first | replace hc3 := of_decide_eq_true hc3 | replace hc3 := lt_f hc3 | replace hc3 := le_f hc3 | replace hc3 := dec_f hc3 | replace hc3 := nlt_t hc3 | replace hc3 := nle_t hc3 | replace hc3 := ndec_t hc3 | replace hc3 := ndec_f hc3 | replace hc3 := nn_t hc3 | replace hc3 := nn_f hc3 | skip
      have h5 : ou2 = 4 := hc3
      refine g_seq ?_
      refine g_region ?_
      refine gl_c rfl (o_call rfl (over_spec 4) (by repeat (first | exact .nil | (apply Part.cons; · (repeat (first | exact .head | apply Sel.tail)))))) ?_
      rintro _ R ⟨_, ⟨rfl, rfl⟩, rfl⟩
      try simp only [List.cons_append, List.nil_append]
      first | refine gl_u (o_storeSA rfl rfl rfl rfl (by simp; omega) (by simp)) ?_ | refine gl_u (o_storeA rfl rfl rfl rfl rfl) ?_
      refine gl_nil ?_
      refine ge_then ?_
      refine g_ret ?_
      refine ge_then_ret ?_
      refine ret1c (.inl rfl) rfl rfl rfl rfl _ (⟨by show _ = Value.agg (noteN B false l).cells.toArray; rw [note_c hP1 rfl h4, ← hl2, mail_b hP2 rfl h5]; rfl, rfl⟩) (To.sat (by repeat (first | exact .nil | exact .done .refl | (apply To.cons; · (repeat (first | exact .head | apply Sel.tail))) | exact .done (by repeat (first | exact .refl | apply Drop.skip)))))
     ·
      first | replace hc3 := of_decide_eq_true hc3 | replace hc3 := lt_f hc3 | replace hc3 := le_f hc3 | replace hc3 := dec_f hc3 | replace hc3 := nlt_t hc3 | replace hc3 := nle_t hc3 | replace hc3 := ndec_t hc3 | replace hc3 := ndec_f hc3 | replace hc3 := nn_t hc3 | replace hc3 := nn_f hc3 | skip
      have h5 : ou2 ≠ 4 := hc3
      refine g_skip ?_
      refine ge_then ?_
      refine g_seq ?_
      refine g_seq ?_
      refine g_region ?_
      refine gl_v rfl (o_move rfl) ?_
      refine gl_v rfl (o_lenL rfl) ?_
      refine gl_v rfl (o_eql rfl rfl) ?_
      refine gl_nil ?_
      refine ge_then ?_
      refine g_cond rfl (fun hc4 => ?_) (fun hc4 => ?_)
      ·
       first | replace hc4 := of_decide_eq_true hc4 | replace hc4 := lt_f hc4 | replace hc4 := le_f hc4 | replace hc4 := dec_f hc4 | replace hc4 := nlt_t hc4 | replace hc4 := nle_t hc4 | replace hc4 := ndec_t hc4 | replace hc4 := ndec_f hc4 | replace hc4 := nn_t hc4 | replace hc4 := nn_f hc4 | skip
       obtain rfl : l3 = [] := List.eq_nil_of_length_eq_zero (by have h9 := hc4; omega)
       refine g_seq ?_
       refine g_region ?_
       first | refine gl_v rfl (o_fldS rfl) ?_ | refine gl_v rfl (o_fld rfl) ?_
       first | refine gl_v rfl (o_load rfl rfl) ?_ | refine gl_v rfl (o_loadS rfl rfl) ?_ | refine gl_v rfl (o_loadC rfl) ?_
       refine gl_v rfl (o_move rfl) ?_
       refine gl_v rfl (o_build rfl rfl) ?_
       first | refine gl_u (o_storeSA rfl rfl rfl rfl (by simp; omega) (by simp)) ?_ | refine gl_u (o_storeA rfl rfl rfl rfl rfl) ?_
       refine gl_nil ?_
       refine ge_then ?_
       refine g_ret ?_
       refine ge_then_ret ?_
       refine ret1c (.inl rfl) rfl rfl rfl rfl _ (⟨by show _ = Value.agg (noteN B false l).cells.toArray; rw [note_c hP1 rfl h4, ← hl2, mail_d hP2 rfl h5, ← hl3]; rfl, rfl⟩) (To.sat (by repeat (first | exact .nil | exact .done .refl | (apply To.cons; · (repeat (first | exact .head | apply Sel.tail))) | exact .done (by repeat (first | exact .refl | apply Drop.skip)))))
      ·
       first | replace hc4 := of_decide_eq_true hc4 | replace hc4 := lt_f hc4 | replace hc4 := le_f hc4 | replace hc4 := dec_f hc4 | replace hc4 := nlt_t hc4 | replace hc4 := nle_t hc4 | replace hc4 := ndec_t hc4 | replace hc4 := ndec_f hc4 | replace hc4 := nn_t hc4 | replace hc4 := nn_f hc4 | skip
       obtain ⟨z0, z1, rfl⟩ : ∃ p q, l3 = p :: q := by cases l3 with | nil => simp at * | cons p q => exact ⟨p, q, rfl⟩
       haveI := hr3.inst
       refine g_skip ?_
       refine ge_then ?_
       refine g_seq ?_
       refine g_seq ?_
       refine g_region ?_
       refine gl_v rfl (o_move rfl) ?_
       refine gl_v rfl (o_idxS (j := 0) rfl rfl (by simp)) ?_
       refine gl_v rfl (o_loadS rfl (show (List.map U64 (z0 :: z1))[0 * 1]? = some (U64 z0) from rfl)) ?_
       refine gl_v rfl (o_eql rfl rfl) ?_
       refine gl_nil ?_
       refine ge_then ?_
       refine g_cond rfl (fun hc5 => ?_) (fun hc5 => ?_)
       ·
        first | replace hc5 := of_decide_eq_true hc5 | replace hc5 := lt_f hc5 | replace hc5 := le_f hc5 | replace hc5 := dec_f hc5 | replace hc5 := nlt_t hc5 | replace hc5 := nle_t hc5 | replace hc5 := ndec_t hc5 | replace hc5 := ndec_f hc5 | replace hc5 := nn_t hc5 | replace hc5 := nn_f hc5 | skip
        have hz1 : z0 = 1 := hc5
        refine g_seq ?_
        refine g_region ?_
        refine gl_c rfl (o_call rfl (over_spec 8) (by repeat (first | exact .nil | (apply Part.cons; · (repeat (first | exact .head | apply Sel.tail)))))) ?_
        rintro _ R ⟨_, ⟨rfl, rfl⟩, rfl⟩
        try simp only [List.cons_append, List.nil_append]
        first | refine gl_u (o_storeSA rfl rfl rfl rfl (by simp; omega) (by simp)) ?_ | refine gl_u (o_storeA rfl rfl rfl rfl rfl) ?_
        refine gl_nil ?_
        refine ge_then ?_
        refine g_ret ?_
        refine ge_then_ret ?_
        refine ret1c (.inl rfl) rfl rfl rfl rfl _ (⟨by show _ = Value.agg (noteN B false l).cells.toArray; rw [note_c hP1 rfl h4, ← hl2, mail_d hP2 rfl h5, ← hl3, tail_1 hz1]; rfl, rfl⟩) (To.sat (by repeat (first | exact .nil | exact .done .refl | (apply To.cons; · (repeat (first | exact .head | apply Sel.tail))) | exact .done (by repeat (first | exact .refl | apply Drop.skip)))))
       ·
        first | replace hc5 := of_decide_eq_true hc5 | replace hc5 := lt_f hc5 | replace hc5 := le_f hc5 | replace hc5 := dec_f hc5 | replace hc5 := nlt_t hc5 | replace hc5 := nle_t hc5 | replace hc5 := ndec_t hc5 | replace hc5 := ndec_f hc5 | replace hc5 := nn_t hc5 | replace hc5 := nn_f hc5 | skip
        have hz1 : z0 ≠ 1 := hc5
        refine g_skip ?_
        refine ge_then ?_
        refine g_seq ?_
        refine g_region ?_
        refine gl_c rfl (o_call rfl (over_spec 1) (by repeat (first | exact .nil | (apply Part.cons; · (repeat (first | exact .head | apply Sel.tail)))))) ?_
        rintro _ R ⟨_, ⟨rfl, rfl⟩, rfl⟩
        try simp only [List.cons_append, List.nil_append]
        first | refine gl_u (o_storeSA rfl rfl rfl rfl (by simp; omega) (by simp)) ?_ | refine gl_u (o_storeA rfl rfl rfl rfl rfl) ?_
        refine gl_nil ?_
        refine ge_then ?_
        refine g_ret ?_
        refine ret1c (.inl rfl) rfl rfl rfl rfl _ (⟨by show _ = Value.agg (noteN B false l).cells.toArray; rw [note_c hP1 rfl h4, ← hl2, mail_d hP2 rfl h5, ← hl3, tail_2 hz1]; rfl, rfl⟩) (To.sat (by repeat (first | exact .nil | exact .done .refl | (apply To.cons; · (repeat (first | exact .head | apply Sel.tail))) | exact .done (by repeat (first | exact .refl | apply Drop.skip)))))
  ·
   refine g_region ?_
   first | refine gl_v rfl (o_fldS rfl) ?_ | refine gl_v rfl (o_fld rfl) ?_
   first | refine gl_v rfl (o_load rfl rfl) ?_ | refine gl_v rfl (o_loadS rfl rfl) ?_ | refine gl_v rfl (o_loadC rfl) ?_
   refine gl_v rfl (o_is (c := false) (by simp [h4]) (o_eql rfl rfl)) ?_
   refine gl_v rfl (o_move rfl) ?_
   refine gl_gF rfl rfl rfl rfl ?_
   refine gl_v rfl (o_pickF rfl rfl rfl) ?_
   refine gl_nil ?_
   refine ge_then ?_
   refine g_cond_false rfl ?_
   refine g_skip ?_
   refine ge_then ?_
   refine g_seq ?_
   refine g_seq ?_
   refine g_region ?_
   first | refine gl_v rfl (o_fldS rfl) ?_ | refine gl_v rfl (o_fld rfl) ?_
   first | refine gl_v rfl (o_load rfl rfl) ?_ | refine gl_v rfl (o_loadS rfl rfl) ?_ | refine gl_v rfl (o_loadC rfl) ?_
   refine gl_v rfl (o_is (c := false) (by simp [h4]) (o_eql rfl rfl)) ?_
   refine gl_nil ?_
   refine ge_then ?_
   refine g_cond_false rfl ?_
   refine g_skip ?_
   refine ge_then ?_
   refine g_seq ?_
   refine g_seq ?_
   refine g_region ?_
   refine gl_v rfl (o_move rfl) ?_
   refine gl_v rfl (o_lenL rfl) ?_
   refine gl_v rfl (o_eql rfl rfl) ?_
   refine gl_nil ?_
   refine ge_then ?_
   refine g_cond rfl (fun hc6 => ?_) (fun hc6 => ?_)
   ·
    first | replace hc6 := of_decide_eq_true hc6 | replace hc6 := lt_f hc6 | replace hc6 := le_f hc6 | replace hc6 := dec_f hc6 | replace hc6 := nlt_t hc6 | replace hc6 := nle_t hc6 | replace hc6 := ndec_t hc6 | replace hc6 := ndec_f hc6 | replace hc6 := nn_t hc6 | replace hc6 := nn_f hc6 | skip
    obtain rfl : l2 = [] := List.eq_nil_of_length_eq_zero (by have h9 := hc6; omega)
    refine g_seq ?_
    refine g_region ?_
    first | refine gl_v rfl (o_fldS rfl) ?_ | refine gl_v rfl (o_fld rfl) ?_
    first | refine gl_v rfl (o_load rfl rfl) ?_ | refine gl_v rfl (o_loadS rfl rfl) ?_ | refine gl_v rfl (o_loadC rfl) ?_
    refine gl_v rfl (o_move rfl) ?_
    refine gl_v rfl (o_build rfl rfl) ?_
    first | refine gl_u (o_storeSA rfl rfl rfl rfl (by simp; omega) (by simp)) ?_ | refine gl_u (o_storeA rfl rfl rfl rfl rfl) ?_
    refine gl_nil ?_
    refine ge_then ?_
    refine g_ret ?_
    refine ge_then_ret ?_
    refine ret1c (.inl rfl) rfl rfl rfl rfl _ (⟨by show _ = Value.agg (noteN B false l).cells.toArray; rw [note_d hP1 rfl h4, ← hl2]; rfl, rfl⟩) (To.sat (by repeat (first | exact .nil | exact .done .refl | (apply To.cons; · (repeat (first | exact .head | apply Sel.tail))) | exact .done (by repeat (first | exact .refl | apply Drop.skip)))))
   ·
    first | replace hc6 := of_decide_eq_true hc6 | replace hc6 := lt_f hc6 | replace hc6 := le_f hc6 | replace hc6 := dec_f hc6 | replace hc6 := nlt_t hc6 | replace hc6 := nle_t hc6 | replace hc6 := ndec_t hc6 | replace hc6 := ndec_f hc6 | replace hc6 := nn_t hc6 | replace hc6 := nn_f hc6 | skip
    obtain ⟨z0, z1, rfl⟩ : ∃ p q, l2 = p :: q := by cases l2 with | nil => simp at * | cons p q => exact ⟨p, q, rfl⟩
    haveI := hr2.inst
    refine g_skip ?_
    refine ge_then ?_
    refine g_seq ?_
    refine g_seq ?_
    refine g_region ?_
    refine gl_v rfl (o_move rfl) ?_
    refine gl_v rfl (o_idxS (j := 0) rfl rfl (by simp)) ?_
    refine gl_v rfl (o_loadS rfl (show (List.map U64 (z0 :: z1))[0 * 1]? = some (U64 z0) from rfl)) ?_
    refine gl_v rfl (o_eql rfl rfl) ?_
    refine gl_nil ?_
    refine ge_then ?_
    refine g_cond rfl (fun hc7 => ?_) (fun hc7 => ?_)
    ·
     first | replace hc7 := of_decide_eq_true hc7 | replace hc7 := lt_f hc7 | replace hc7 := le_f hc7 | replace hc7 := dec_f hc7 | replace hc7 := nlt_t hc7 | replace hc7 := nle_t hc7 | replace hc7 := ndec_t hc7 | replace hc7 := ndec_f hc7 | replace hc7 := nn_t hc7 | replace hc7 := nn_f hc7 | skip
     have hz1 : z0 = 1 := hc7
     refine g_seq ?_
     refine g_region ?_
     refine gl_c rfl (o_call rfl (over_spec 8) (by repeat (first | exact .nil | (apply Part.cons; · (repeat (first | exact .head | apply Sel.tail)))))) ?_
     rintro _ R ⟨_, ⟨rfl, rfl⟩, rfl⟩
     try simp only [List.cons_append, List.nil_append]
     first | refine gl_u (o_storeSA rfl rfl rfl rfl (by simp; omega) (by simp)) ?_ | refine gl_u (o_storeA rfl rfl rfl rfl rfl) ?_
     refine gl_nil ?_
     refine ge_then ?_
     refine g_ret ?_
     refine ge_then_ret ?_
     refine ret1c (.inl rfl) rfl rfl rfl rfl _ (⟨by show _ = Value.agg (noteN B false l).cells.toArray; rw [note_d hP1 rfl h4, ← hl2, tail_1 hz1]; rfl, rfl⟩) (To.sat (by repeat (first | exact .nil | exact .done .refl | (apply To.cons; · (repeat (first | exact .head | apply Sel.tail))) | exact .done (by repeat (first | exact .refl | apply Drop.skip)))))
    ·
     first | replace hc7 := of_decide_eq_true hc7 | replace hc7 := lt_f hc7 | replace hc7 := le_f hc7 | replace hc7 := dec_f hc7 | replace hc7 := nlt_t hc7 | replace hc7 := nle_t hc7 | replace hc7 := ndec_t hc7 | replace hc7 := ndec_f hc7 | replace hc7 := nn_t hc7 | replace hc7 := nn_f hc7 | skip
     have hz1 : z0 ≠ 1 := hc7
     refine g_skip ?_
     refine ge_then ?_
     refine g_seq ?_
     refine g_region ?_
     refine gl_c rfl (o_call rfl (over_spec 1) (by repeat (first | exact .nil | (apply Part.cons; · (repeat (first | exact .head | apply Sel.tail)))))) ?_
     rintro _ R ⟨_, ⟨rfl, rfl⟩, rfl⟩
     try simp only [List.cons_append, List.nil_append]
     first | refine gl_u (o_storeSA rfl rfl rfl rfl (by simp; omega) (by simp)) ?_ | refine gl_u (o_storeA rfl rfl rfl rfl rfl) ?_
     refine gl_nil ?_
     refine ge_then ?_
     refine g_ret ?_
     refine ret1c (.inl rfl) rfl rfl rfl rfl _ (⟨by show _ = Value.agg (noteN B false l).cells.toArray; rw [note_d hP1 rfl h4, ← hl2, tail_2 hz1]; rfl, rfl⟩) (To.sat (by repeat (first | exact .nil | exact .done .refl | (apply To.cons; · (repeat (first | exact .head | apply Sel.tail))) | exact .done (by repeat (first | exact .refl | apply Drop.skip)))))

set_option maxRecDepth 8000 in
set_option maxHeartbeats 1000000 in
theorem settle_t0 (B : PB) (hB : 1 ≤ B.nm ∧ B.nm ≤ 64 ∧ 1 ≤ B.nn ∧ B.nn ≤ 64 ∧ B.b ≤ 60000) (a : Option Addr) (c : Nat) (A : Assn) (hr : Rd A a c []) : FnS Tryz.prog 47 [boxV B, .bool true, .slice a 0 c] [A] (fun u Bs => u = .agg (settleN B true []).cells.toArray ∧ Bs = [A]) := by
 refine fn_body Tryz.func47 rfl rfl rfl ?_
 intro W0 R
 simp only [List.zipIdx_cons, List.zipIdx_nil, List.map_cons, List.map_nil, Nat.zero_add, Nat.reduceAdd, List.cons_append, List.nil_append]
 have hrb : 1 ≤ B.rn true ∧ B.rn true ≤ 64 ∧ B.rb true ≤ 65536 := by simp [PB.rb, PB.rn]; omega
 have hrm : 1 ≤ B.rn false ∧ B.rn false ≤ 64 ∧ B.rb false ≤ 65536 := by simp [PB.rb, PB.rn]; omega
 refine g_seq ?_
 refine g_region ?_
 refine gl_n rfl (o_boxA rfl) ?_
 rintro _ _ ⟨b3, rfl, rfl⟩
 refine gl_n rfl (o_alloc) ?_
 rintro _ _ ⟨b6, rfl, rfl⟩
 refine gl_nil ?_
 refine ge_then ?_
 refine g_seq ?_
 refine g_region ?_
 refine gl_v rfl (o_assign rfl) ?_
 refine gl_nil ?_
 refine ge_then ?_
 refine g_seq ?_
 refine g_seq ?_
 refine g_region ?_
 refine gl_v rfl (o_move rfl) ?_
 refine gl_nil ?_
 refine ge_then ?_
 refine g_cond_true (rfl) ?_
 refine g_region ?_
 refine gl_v rfl (o_assign rfl) ?_
 refine gl_nil ?_
 refine ge_then ?_
 refine g_seq ?_
 refine g_seq ?_
 refine g_region ?_
 refine gl_v rfl (o_move rfl) ?_
 refine gl_v rfl (o_lenL rfl) ?_
 refine gl_v rfl (o_is (c := true) (by first | rfl | (simp; omega)) (o_eql rfl rfl)) ?_
 refine gl_nil ?_
 refine ge_then ?_
 refine g_cond_true rfl ?_
 refine g_seq ?_
 refine g_region ?_
 first | refine gl_v rfl (o_fldS rfl) ?_ | refine gl_v rfl (o_fld rfl) ?_
 first | refine gl_v rfl (o_load rfl rfl) ?_ | refine gl_v rfl (o_loadS rfl rfl) ?_ | refine gl_v rfl (o_loadC rfl) ?_
 refine gl_v rfl (o_move rfl) ?_
 refine gl_v rfl (o_build rfl rfl) ?_
 first | refine gl_u (o_storeSA rfl rfl rfl rfl (by simp; omega) (by simp)) ?_ | refine gl_u (o_storeA rfl rfl rfl rfl rfl) ?_
 refine gl_nil ?_
 refine ge_then ?_
 refine g_ret ?_
 refine ge_then_ret ?_
 refine ret1c (.inl rfl) rfl rfl rfl rfl _ (⟨rfl, rfl⟩) (To.sat (by repeat (first | exact .nil | exact .done .refl | (apply To.cons; · (repeat (first | exact .head | apply Sel.tail))) | exact .done (by repeat (first | exact .refl | apply Drop.skip)))))

set_option maxRecDepth 8000 in
set_option maxHeartbeats 1000000 in
theorem settle_f0 (B : PB) (hB : 1 ≤ B.nm ∧ B.nm ≤ 64 ∧ 1 ≤ B.nn ∧ B.nn ≤ 64 ∧ B.b ≤ 60000) (a : Option Addr) (c : Nat) (A : Assn) (hr : Rd A a c []) : FnS Tryz.prog 47 [boxV B, .bool false, .slice a 0 c] [A] (fun u Bs => u = .agg (settleN B false []).cells.toArray ∧ Bs = [A]) := by
 refine fn_body Tryz.func47 rfl rfl rfl ?_
 intro W0 R
 simp only [List.zipIdx_cons, List.zipIdx_nil, List.map_cons, List.map_nil, Nat.zero_add, Nat.reduceAdd, List.cons_append, List.nil_append]
 have hrb : 1 ≤ B.rn true ∧ B.rn true ≤ 64 ∧ B.rb true ≤ 65536 := by simp [PB.rb, PB.rn]; omega
 have hrm : 1 ≤ B.rn false ∧ B.rn false ≤ 64 ∧ B.rb false ≤ 65536 := by simp [PB.rb, PB.rn]; omega
 refine g_seq ?_
 refine g_region ?_
 refine gl_n rfl (o_boxA rfl) ?_
 rintro _ _ ⟨b3, rfl, rfl⟩
 refine gl_n rfl (o_alloc) ?_
 rintro _ _ ⟨b6, rfl, rfl⟩
 refine gl_nil ?_
 refine ge_then ?_
 refine g_seq ?_
 refine g_region ?_
 refine gl_v rfl (o_assign rfl) ?_
 refine gl_nil ?_
 refine ge_then ?_
 refine g_seq ?_
 refine g_seq ?_
 refine g_region ?_
 refine gl_v rfl (o_move rfl) ?_
 refine gl_nil ?_
 refine ge_then ?_
 refine g_cond_false (rfl) ?_
 refine g_skip ?_
 refine ge_then ?_
 refine g_seq ?_
 refine g_seq ?_
 refine g_region ?_
 refine gl_v rfl (o_move rfl) ?_
 refine gl_v rfl (o_lenL rfl) ?_
 refine gl_v rfl (o_is (c := true) (by first | rfl | (simp; omega)) (o_eql rfl rfl)) ?_
 refine gl_nil ?_
 refine ge_then ?_
 refine g_cond_true rfl ?_
 refine g_seq ?_
 refine g_region ?_
 first | refine gl_v rfl (o_fldS rfl) ?_ | refine gl_v rfl (o_fld rfl) ?_
 first | refine gl_v rfl (o_load rfl rfl) ?_ | refine gl_v rfl (o_loadS rfl rfl) ?_ | refine gl_v rfl (o_loadC rfl) ?_
 refine gl_v rfl (o_move rfl) ?_
 refine gl_v rfl (o_build rfl rfl) ?_
 first | refine gl_u (o_storeSA rfl rfl rfl rfl (by simp; omega) (by simp)) ?_ | refine gl_u (o_storeA rfl rfl rfl rfl rfl) ?_
 refine gl_nil ?_
 refine ge_then ?_
 refine g_ret ?_
 refine ge_then_ret ?_
 refine ret1c (.inl rfl) rfl rfl rfl rfl _ (⟨rfl, rfl⟩) (To.sat (by repeat (first | exact .nil | exact .done .refl | (apply To.cons; · (repeat (first | exact .head | apply Sel.tail))) | exact .done (by repeat (first | exact .refl | apply Drop.skip)))))

theorem settle_spec (B : PB) (hB : 1 ≤ B.nm ∧ B.nm ≤ 64 ∧ 1 ≤ B.nn ∧ B.nn ≤ 64 ∧ B.b ≤ 60000) (held : Bool) (a : Option Addr) (c : Nat) (l : List Int) (hl : LI l) (hm : l.length ≤ 80000) (A : Assn) (hr : Rd A a c l) : FnS Tryz.prog 47 [boxV B, .bool held, .slice a l.length c] [A] (fun u Bs => u = .agg (settleN B held l).cells.toArray ∧ Bs = [A]) := by
  cases l with
  | nil => cases held; exact settle_f0 B hB a c A hr; exact settle_t0 B hB a c A hr
  | cons y0 l =>
    have h1 : LI l := fun x hx => hl x (List.mem_cons_of_mem _ hx)
    have h2 : l.length ≤ 90000 := by simp at hm; omega
    cases held
    · exact settle_f B hB y0 a c l h1 h2 A hr
    · exact settle_t B hB y0 a c l h1 h2 A hr

set_option maxRecDepth 8000 in
set_option maxHeartbeats 1000000 in
theorem rnextP_1 (B : PB) (hB : 1 ≤ B.nm ∧ B.nm ≤ 64 ∧ 1 ≤ B.nn ∧ B.nn ≤ 64 ∧ B.b ≤ 60000) (v : Int) (hv : 0 ≤ v ∧ v ≤ 18446744073709551615) (a : Option Addr) (c : Nat) (l : List Int) (hl : LI l) (hm : l.length ≤ 80000) (A : Assn) (hr : Rd A a c l) : FnS Tryz.prog 17 [boxV B, opV' 1 v (.slice a l.length c)] [A] (fun u Bs => u = .agg (nextP B 1 v l).cells.toArray ∧ Bs = [A]) := by
 refine fn_body Tryz.func17 rfl rfl rfl ?_
 intro W0 R
 simp only [List.zipIdx_cons, List.zipIdx_nil, List.map_cons, List.map_nil, Nat.zero_add, Nat.reduceAdd, List.cons_append, List.nil_append]
 have hrb : 1 ≤ B.rn false ∧ B.rn false ≤ 64 ∧ B.rb false ≤ 65536 := by simp [PB.rb, PB.rn]; omega
 refine g_seq ?_
 refine g_region ?_
 refine gl_n rfl (o_boxA rfl) ?_
 rintro _ _ ⟨b2, rfl, rfl⟩
 refine gl_n rfl (o_boxA rfl) ?_
 rintro _ _ ⟨b3, rfl, rfl⟩
 refine gl_n rfl (o_alloc) ?_
 rintro _ _ ⟨b4, rfl, rfl⟩
 refine gl_nil ?_
 refine ge_then ?_
 refine g_seq ?_
 refine g_seq ?_
 refine g_region ?_
 first | refine gl_v rfl (o_fldS rfl) ?_ | refine gl_v rfl (o_fld rfl) ?_
 first | refine gl_v rfl (o_load rfl rfl) ?_ | refine gl_v rfl (o_loadS rfl rfl) ?_ | refine gl_v rfl (o_loadC rfl) ?_
 refine gl_nil ?_
 refine ge_then ?_
 refine g_block ?_
 refine g_seq ?_
 refine g_region ?_
 refine gl_v rfl (o_is (c := true) (by first | rfl | exact decide_eq_true (by omega)) (o_eql rfl rfl)) ?_
 refine gl_v rfl (o_assign rfl) ?_
 refine gl_nil ?_
 refine ge_then ?_
 refine g_cond_true rfl ?_
 refine g_seq ?_
 refine g_draw [2, 7, 8] [2] [(0, .stab), (1, .loc), (3, .stab), (4, .stab), (5, .stab), (6, .stab), (2, .eff), (7, .eff), (8, .eff)] [cel b3 52 [I64 1, U64 v, .slice a l.length c], cel b2 25 [I64 B.b, I64 B.nm, I64 B.nn]] mixed (by kernel_rfl) ?_
 first | refine go_vs rfl .none rfl (o_loadSA rfl rfl rfl) (To.sat (by repeat (first | exact .nil | exact .done .refl | (apply To.cons; · (repeat (first | exact .head | apply Sel.tail))) | exact .done (by repeat (first | exact .refl | apply Drop.skip))))) ?_ | refine go_vs rfl .none rfl (o_loadA rfl rfl rfl) (To.sat (by repeat (first | exact .nil | exact .done .refl | (apply To.cons; · (repeat (first | exact .head | apply Sel.tail))) | exact .done (by repeat (first | exact .refl | apply Drop.skip))))) ?_
 first | refine go_v rfl .none rfl (o_loadSA rfl rfl rfl) ?_ | refine go_v rfl .none rfl (o_loadA rfl rfl rfl) ?_
 first | refine go_vs rfl .none rfl (o_fldS rfl) (To.sat (by repeat (first | exact .nil | exact .done .refl | (apply To.cons; · (repeat (first | exact .head | apply Sel.tail))) | exact .done (by repeat (first | exact .refl | apply Drop.skip))))) ?_ | refine go_vs rfl .none rfl (o_fld rfl) (To.sat (by repeat (first | exact .nil | exact .done .refl | (apply To.cons; · (repeat (first | exact .head | apply Sel.tail))) | exact .done (by repeat (first | exact .refl | apply Drop.skip))))) ?_
 first | refine go_vs rfl .none rfl (o_load rfl rfl) (To.sat (by repeat (first | exact .nil | exact .done .refl | (apply To.cons; · (repeat (first | exact .head | apply Sel.tail))) | exact .done (by repeat (first | exact .refl | apply Drop.skip))))) ?_ | refine go_vs rfl .none rfl (o_loadS rfl rfl) (To.sat (by repeat (first | exact .nil | exact .done .refl | (apply To.cons; · (repeat (first | exact .head | apply Sel.tail))) | exact .done (by repeat (first | exact .refl | apply Drop.skip))))) ?_ | refine go_vs rfl .none rfl (o_loadC rfl) (To.sat (by repeat (first | exact .nil | exact .done .refl | (apply To.cons; · (repeat (first | exact .head | apply Sel.tail))) | exact .done (by repeat (first | exact .refl | apply Drop.skip))))) ?_
 first | refine go_vs rfl .none rfl (o_fldS rfl) (To.sat (by repeat (first | exact .nil | exact .done .refl | (apply To.cons; · (repeat (first | exact .head | apply Sel.tail))) | exact .done (by repeat (first | exact .refl | apply Drop.skip))))) ?_ | refine go_vs rfl .none rfl (o_fld rfl) (To.sat (by repeat (first | exact .nil | exact .done .refl | (apply To.cons; · (repeat (first | exact .head | apply Sel.tail))) | exact .done (by repeat (first | exact .refl | apply Drop.skip))))) ?_
 first | refine go_vs rfl .none rfl (o_load rfl rfl) (To.sat (by repeat (first | exact .nil | exact .done .refl | (apply To.cons; · (repeat (first | exact .head | apply Sel.tail))) | exact .done (by repeat (first | exact .refl | apply Drop.skip))))) ?_ | refine go_vs rfl .none rfl (o_loadS rfl rfl) (To.sat (by repeat (first | exact .nil | exact .done .refl | (apply To.cons; · (repeat (first | exact .head | apply Sel.tail))) | exact .done (by repeat (first | exact .refl | apply Drop.skip))))) ?_ | refine go_vs rfl .none rfl (o_loadC rfl) (To.sat (by repeat (first | exact .nil | exact .done .refl | (apply To.cons; · (repeat (first | exact .head | apply Sel.tail))) | exact .done (by repeat (first | exact .refl | apply Drop.skip))))) ?_
 refine go_c rfl .none rfl (o_call rfl (mailR_spec B hB) (by repeat (first | exact .nil | (apply Part.cons; · (repeat (first | exact .head | apply Sel.tail)))))) ?_
 rintro _ R ⟨_, ⟨rfl, rfl⟩, rfl⟩
 try simp only [List.cons_append, List.nil_append]
 refine ⟨(fun _ => (To.sat (by repeat (first | exact .nil | exact .done .refl | (apply To.cons; · (repeat (first | exact .head | apply Sel.tail))) | exact .done (by repeat (first | exact .refl | apply Drop.skip)))))), ?_⟩
 refine go_c rfl .none rfl (o_call rfl (rlayP_spec B hB false v a c l hl (by omega) A hr) (by repeat (first | exact .nil | (apply Part.cons; · (repeat (first | exact .head | apply Sel.tail)))))) ?_
 rintro _ R ⟨_, ⟨rfl, rfl⟩, rfl⟩
 try simp only [List.cons_append, List.nil_append]
 refine ⟨(fun hG => absurd hG (by decide)), ?_⟩
 first | refine go_u rfl .none (o_storeSA rfl rfl rfl rfl (by simp; omega) (by simp)) (fun hG => absurd hG (by decide)) ?_ | refine go_u rfl .none (o_storeA rfl rfl rfl rfl rfl) (fun hG => absurd hG (by decide)) ?_
 refine go_nil ?_
 refine ge_then ?_
 refine g_ret ?_
 refine ge_block_ret ?_
 refine ge_then_ret ?_
 refine ret1c (.inl rfl) rfl rfl rfl rfl _ (⟨by first | rfl | (show _ = Value.agg (askN B v (y0 :: r)).cells.toArray; simp only [askN]; first | rw [if_pos hy]; rfl | rw [if_neg hy]; rfl) | (show _ = Value.agg (goneN B (y0 :: r)).cells.toArray; simp only [goneN]; first | rw [if_pos hy]; rfl | rw [if_neg hy]; rfl), rfl⟩) (To.sat (by repeat (first | exact .nil | exact .done .refl | (apply To.cons; · (repeat (first | exact .head | apply Sel.tail))) | exact .done (by repeat (first | exact .refl | apply Drop.skip)))))

set_option maxRecDepth 8000 in
set_option maxHeartbeats 1000000 in
theorem rnextP_2 (B : PB) (hB : 1 ≤ B.nm ∧ B.nm ≤ 64 ∧ 1 ≤ B.nn ∧ B.nn ≤ 64 ∧ B.b ≤ 60000) (v : Int) (hv : 0 ≤ v ∧ v ≤ 18446744073709551615) (a : Option Addr) (c : Nat) (l : List Int) (hl : LI l) (hm : l.length ≤ 80000) (A : Assn) (hr : Rd A a c l) : FnS Tryz.prog 17 [boxV B, opV' 2 v (.slice a l.length c)] [A] (fun u Bs => u = .agg (nextP B 2 v l).cells.toArray ∧ Bs = [A]) := by
 refine fn_body Tryz.func17 rfl rfl rfl ?_
 intro W0 R
 simp only [List.zipIdx_cons, List.zipIdx_nil, List.map_cons, List.map_nil, Nat.zero_add, Nat.reduceAdd, List.cons_append, List.nil_append]
 have hrb : 1 ≤ B.rn false ∧ B.rn false ≤ 64 ∧ B.rb false ≤ 65536 := by simp [PB.rb, PB.rn]; omega
 refine g_seq ?_
 refine g_region ?_
 refine gl_n rfl (o_boxA rfl) ?_
 rintro _ _ ⟨b2, rfl, rfl⟩
 refine gl_n rfl (o_boxA rfl) ?_
 rintro _ _ ⟨b3, rfl, rfl⟩
 refine gl_n rfl (o_alloc) ?_
 rintro _ _ ⟨b4, rfl, rfl⟩
 refine gl_nil ?_
 refine ge_then ?_
 refine g_seq ?_
 refine g_seq ?_
 refine g_region ?_
 first | refine gl_v rfl (o_fldS rfl) ?_ | refine gl_v rfl (o_fld rfl) ?_
 first | refine gl_v rfl (o_load rfl rfl) ?_ | refine gl_v rfl (o_loadS rfl rfl) ?_ | refine gl_v rfl (o_loadC rfl) ?_
 refine gl_nil ?_
 refine ge_then ?_
 refine g_block ?_
 refine g_seq ?_
 refine g_region ?_
 refine gl_v rfl (o_is (c := false) (by first | rfl | exact decide_eq_false (by omega)) (o_eql rfl rfl)) ?_
 refine gl_v rfl (o_assign rfl) ?_
 refine gl_nil ?_
 refine ge_then ?_
 refine g_cond_false rfl ?_
 refine g_seq ?_
 refine g_region ?_
 refine gl_v rfl (o_is (c := true) (by first | rfl | exact decide_eq_true (by omega)) (o_eql rfl rfl)) ?_
 refine gl_v rfl (o_assign rfl) ?_
 refine gl_nil ?_
 refine ge_then ?_
 refine g_cond_true rfl ?_
 refine g_seq ?_
 refine g_draw [2, 7, 8] [2] [(0, .stab), (1, .loc), (3, .stab), (4, .stab), (5, .stab), (6, .stab), (2, .eff), (7, .eff), (8, .eff)] [cel b3 52 [I64 2, U64 v, .slice a l.length c], cel b2 25 [I64 B.b, I64 B.nm, I64 B.nn]] mixed (by kernel_rfl) ?_
 first | refine go_vs rfl .none rfl (o_loadSA rfl rfl rfl) (To.sat (by repeat (first | exact .nil | exact .done .refl | (apply To.cons; · (repeat (first | exact .head | apply Sel.tail))) | exact .done (by repeat (first | exact .refl | apply Drop.skip))))) ?_ | refine go_vs rfl .none rfl (o_loadA rfl rfl rfl) (To.sat (by repeat (first | exact .nil | exact .done .refl | (apply To.cons; · (repeat (first | exact .head | apply Sel.tail))) | exact .done (by repeat (first | exact .refl | apply Drop.skip))))) ?_
 first | refine go_v rfl .none rfl (o_loadSA rfl rfl rfl) ?_ | refine go_v rfl .none rfl (o_loadA rfl rfl rfl) ?_
 first | refine go_vs rfl .none rfl (o_fldS rfl) (To.sat (by repeat (first | exact .nil | exact .done .refl | (apply To.cons; · (repeat (first | exact .head | apply Sel.tail))) | exact .done (by repeat (first | exact .refl | apply Drop.skip))))) ?_ | refine go_vs rfl .none rfl (o_fld rfl) (To.sat (by repeat (first | exact .nil | exact .done .refl | (apply To.cons; · (repeat (first | exact .head | apply Sel.tail))) | exact .done (by repeat (first | exact .refl | apply Drop.skip))))) ?_
 first | refine go_vs rfl .none rfl (o_load rfl rfl) (To.sat (by repeat (first | exact .nil | exact .done .refl | (apply To.cons; · (repeat (first | exact .head | apply Sel.tail))) | exact .done (by repeat (first | exact .refl | apply Drop.skip))))) ?_ | refine go_vs rfl .none rfl (o_loadS rfl rfl) (To.sat (by repeat (first | exact .nil | exact .done .refl | (apply To.cons; · (repeat (first | exact .head | apply Sel.tail))) | exact .done (by repeat (first | exact .refl | apply Drop.skip))))) ?_ | refine go_vs rfl .none rfl (o_loadC rfl) (To.sat (by repeat (first | exact .nil | exact .done .refl | (apply To.cons; · (repeat (first | exact .head | apply Sel.tail))) | exact .done (by repeat (first | exact .refl | apply Drop.skip))))) ?_
 first | refine go_vs rfl .none rfl (o_fldS rfl) (To.sat (by repeat (first | exact .nil | exact .done .refl | (apply To.cons; · (repeat (first | exact .head | apply Sel.tail))) | exact .done (by repeat (first | exact .refl | apply Drop.skip))))) ?_ | refine go_vs rfl .none rfl (o_fld rfl) (To.sat (by repeat (first | exact .nil | exact .done .refl | (apply To.cons; · (repeat (first | exact .head | apply Sel.tail))) | exact .done (by repeat (first | exact .refl | apply Drop.skip))))) ?_
 first | refine go_vs rfl .none rfl (o_load rfl rfl) (To.sat (by repeat (first | exact .nil | exact .done .refl | (apply To.cons; · (repeat (first | exact .head | apply Sel.tail))) | exact .done (by repeat (first | exact .refl | apply Drop.skip))))) ?_ | refine go_vs rfl .none rfl (o_loadS rfl rfl) (To.sat (by repeat (first | exact .nil | exact .done .refl | (apply To.cons; · (repeat (first | exact .head | apply Sel.tail))) | exact .done (by repeat (first | exact .refl | apply Drop.skip))))) ?_ | refine go_vs rfl .none rfl (o_loadC rfl) (To.sat (by repeat (first | exact .nil | exact .done .refl | (apply To.cons; · (repeat (first | exact .head | apply Sel.tail))) | exact .done (by repeat (first | exact .refl | apply Drop.skip))))) ?_
 refine go_c rfl .none rfl (o_call rfl (noteR_spec B hB) (by repeat (first | exact .nil | (apply Part.cons; · (repeat (first | exact .head | apply Sel.tail)))))) ?_
 rintro _ R ⟨_, ⟨rfl, rfl⟩, rfl⟩
 try simp only [List.cons_append, List.nil_append]
 refine ⟨(fun _ => (To.sat (by repeat (first | exact .nil | exact .done .refl | (apply To.cons; · (repeat (first | exact .head | apply Sel.tail))) | exact .done (by repeat (first | exact .refl | apply Drop.skip)))))), ?_⟩
 refine go_c rfl .none rfl (o_call rfl (rlayP_spec B hB true v a c l hl (by omega) A hr) (by repeat (first | exact .nil | (apply Part.cons; · (repeat (first | exact .head | apply Sel.tail)))))) ?_
 rintro _ R ⟨_, ⟨rfl, rfl⟩, rfl⟩
 try simp only [List.cons_append, List.nil_append]
 refine ⟨(fun hG => absurd hG (by decide)), ?_⟩
 first | refine go_u rfl .none (o_storeSA rfl rfl rfl rfl (by simp; omega) (by simp)) (fun hG => absurd hG (by decide)) ?_ | refine go_u rfl .none (o_storeA rfl rfl rfl rfl rfl) (fun hG => absurd hG (by decide)) ?_
 refine go_nil ?_
 refine ge_then ?_
 refine g_ret ?_
 refine ge_block_ret ?_
 refine ge_then_ret ?_
 refine ret1c (.inl rfl) rfl rfl rfl rfl _ (⟨by first | rfl | (show _ = Value.agg (askN B v (y0 :: r)).cells.toArray; simp only [askN]; first | rw [if_pos hy]; rfl | rw [if_neg hy]; rfl) | (show _ = Value.agg (goneN B (y0 :: r)).cells.toArray; simp only [goneN]; first | rw [if_pos hy]; rfl | rw [if_neg hy]; rfl), rfl⟩) (To.sat (by repeat (first | exact .nil | exact .done .refl | (apply To.cons; · (repeat (first | exact .head | apply Sel.tail))) | exact .done (by repeat (first | exact .refl | apply Drop.skip)))))

set_option maxRecDepth 8000 in
set_option maxHeartbeats 1000000 in
theorem rnextP_3 (B : PB) (hB : 1 ≤ B.nm ∧ B.nm ≤ 64 ∧ 1 ≤ B.nn ∧ B.nn ≤ 64 ∧ B.b ≤ 60000) (v : Int) (hv : 0 ≤ v ∧ v ≤ 18446744073709551615) (a : Option Addr) (c : Nat) (l : List Int) (hl : LI l) (hm : l.length ≤ 80000) (A : Assn) (hr : Rd A a c l) : FnS Tryz.prog 17 [boxV B, opV' 3 v (.slice a l.length c)] [A] (fun u Bs => u = .agg (nextP B 3 v l).cells.toArray ∧ Bs = [A]) := by
 refine fn_body Tryz.func17 rfl rfl rfl ?_
 intro W0 R
 simp only [List.zipIdx_cons, List.zipIdx_nil, List.map_cons, List.map_nil, Nat.zero_add, Nat.reduceAdd, List.cons_append, List.nil_append]
 have hrb : 1 ≤ B.rn false ∧ B.rn false ≤ 64 ∧ B.rb false ≤ 65536 := by simp [PB.rb, PB.rn]; omega
 refine g_seq ?_
 refine g_region ?_
 refine gl_n rfl (o_boxA rfl) ?_
 rintro _ _ ⟨b2, rfl, rfl⟩
 refine gl_n rfl (o_boxA rfl) ?_
 rintro _ _ ⟨b3, rfl, rfl⟩
 refine gl_n rfl (o_alloc) ?_
 rintro _ _ ⟨b4, rfl, rfl⟩
 refine gl_nil ?_
 refine ge_then ?_
 refine g_seq ?_
 refine g_seq ?_
 refine g_region ?_
 first | refine gl_v rfl (o_fldS rfl) ?_ | refine gl_v rfl (o_fld rfl) ?_
 first | refine gl_v rfl (o_load rfl rfl) ?_ | refine gl_v rfl (o_loadS rfl rfl) ?_ | refine gl_v rfl (o_loadC rfl) ?_
 refine gl_nil ?_
 refine ge_then ?_
 refine g_block ?_
 refine g_seq ?_
 refine g_region ?_
 refine gl_v rfl (o_is (c := false) (by first | rfl | exact decide_eq_false (by omega)) (o_eql rfl rfl)) ?_
 refine gl_v rfl (o_assign rfl) ?_
 refine gl_nil ?_
 refine ge_then ?_
 refine g_cond_false rfl ?_
 refine g_seq ?_
 refine g_region ?_
 refine gl_v rfl (o_is (c := false) (by first | rfl | exact decide_eq_false (by omega)) (o_eql rfl rfl)) ?_
 refine gl_v rfl (o_assign rfl) ?_
 refine gl_nil ?_
 refine ge_then ?_
 refine g_cond_false rfl ?_
 refine g_seq ?_
 refine g_region ?_
 refine gl_v rfl (o_is (c := true) (by first | rfl | exact decide_eq_true (by omega)) (o_eql rfl rfl)) ?_
 refine gl_v rfl (o_assign rfl) ?_
 refine gl_nil ?_
 refine ge_then ?_
 refine g_cond_true rfl ?_
 refine g_seq ?_
 refine g_seq ?_
 refine g_region ?_
 first | refine gl_v rfl (o_fldS rfl) ?_ | refine gl_v rfl (o_fld rfl) ?_
 first | refine gl_v rfl (o_load rfl rfl) ?_ | refine gl_v rfl (o_loadS rfl rfl) ?_ | refine gl_v rfl (o_loadC rfl) ?_
 refine gl_v rfl (o_lenL rfl) ?_
 refine gl_v rfl (o_eql rfl rfl) ?_
 refine gl_nil ?_
 refine ge_then ?_
 refine g_cond rfl (fun hc1 => ?_) (fun hc1 => ?_)
 ·
  first | replace hc1 := of_decide_eq_true hc1 | replace hc1 := lt_f hc1 | replace hc1 := le_f hc1 | replace hc1 := dec_f hc1 | replace hc1 := nlt_t hc1 | replace hc1 := nle_t hc1 | replace hc1 := ndec_t hc1 | replace hc1 := ndec_f hc1 | replace hc1 := nn_t hc1 | replace hc1 := nn_f hc1 | skip
  obtain rfl : l = [] := List.eq_nil_of_length_eq_zero (by have h9 := hc1; omega)
  refine g_seq ?_
  refine g_region ?_
  first | refine gl_v rfl (o_fldS rfl) ?_ | refine gl_v rfl (o_fld rfl) ?_
  first | refine gl_v rfl (o_load rfl rfl) ?_ | refine gl_v rfl (o_loadS rfl rfl) ?_ | refine gl_v rfl (o_loadC rfl) ?_
  refine gl_v rfl (o_addR ((B.b : Int) + 1) (wr_i64 (by omega)) rfl rfl) ?_
  refine gl_v rfl (o_build rfl rfl) ?_
  first | refine gl_u (o_storeSA rfl rfl rfl rfl (by simp; omega) (by simp)) ?_ | refine gl_u (o_storeA rfl rfl rfl rfl rfl) ?_
  refine gl_nil ?_
  refine ge_then ?_
  refine g_ret ?_
  refine ge_then_ret ?_
  refine ge_block_ret ?_
  refine ge_then_ret ?_
  refine ret1c (.inl rfl) rfl rfl rfl rfl _ (⟨by first | rfl | (show _ = Value.agg (askN B v (y0 :: r)).cells.toArray; simp only [askN]; first | rw [if_pos hy]; rfl | rw [if_neg hy]; rfl) | (show _ = Value.agg (goneN B (y0 :: r)).cells.toArray; simp only [goneN]; first | rw [if_pos hy]; rfl | rw [if_neg hy]; rfl), rfl⟩) (To.sat (by repeat (first | exact .nil | exact .done .refl | (apply To.cons; · (repeat (first | exact .head | apply Sel.tail))) | exact .done (by repeat (first | exact .refl | apply Drop.skip)))))
 ·
  first | replace hc1 := of_decide_eq_true hc1 | replace hc1 := lt_f hc1 | replace hc1 := le_f hc1 | replace hc1 := dec_f hc1 | replace hc1 := nlt_t hc1 | replace hc1 := nle_t hc1 | replace hc1 := ndec_t hc1 | replace hc1 := ndec_f hc1 | replace hc1 := nn_t hc1 | replace hc1 := nn_f hc1 | skip
  obtain ⟨y0, r, rfl⟩ : ∃ p q, l = p :: q := by cases l with | nil => simp at * | cons p q => exact ⟨p, q, rfl⟩
  refine g_skip ?_
  refine ge_then ?_
  refine g_seq ?_
  refine g_seq ?_
  haveI := hr.inst
  refine g_region ?_
  first | refine gl_v rfl (o_fldS rfl) ?_ | refine gl_v rfl (o_fld rfl) ?_
  first | refine gl_v rfl (o_load rfl rfl) ?_ | refine gl_v rfl (o_loadS rfl rfl) ?_ | refine gl_v rfl (o_loadC rfl) ?_
  refine gl_v rfl (o_idxS (j := 0) rfl rfl (by simp)) ?_
  refine gl_v rfl (o_loadS rfl (show (List.map U64 (y0 :: r))[0 * 1]? = some (U64 y0) from rfl)) ?_
  refine gl_v rfl (o_eql rfl rfl) ?_
  refine gl_nil ?_
  refine ge_then ?_
  refine g_cond rfl (fun hc2 => ?_) (fun hc2 => ?_)
  ·
   first | replace hc2 := of_decide_eq_true hc2 | replace hc2 := lt_f hc2 | replace hc2 := le_f hc2 | replace hc2 := dec_f hc2 | replace hc2 := nlt_t hc2 | replace hc2 := nle_t hc2 | replace hc2 := ndec_t hc2 | replace hc2 := ndec_f hc2 | replace hc2 := nn_t hc2 | replace hc2 := nn_f hc2 | skip
   have hy : y0 = 0 := hc2
   refine g_seq ?_
   refine g_region ?_
   refine gl_c rfl (o_call rfl (over_spec 4) (by repeat (first | exact .nil | (apply Part.cons; · (repeat (first | exact .head | apply Sel.tail)))))) ?_
   rintro _ R ⟨_, ⟨rfl, rfl⟩, rfl⟩
   try simp only [List.cons_append, List.nil_append]
   first | refine gl_u (o_storeSA rfl rfl rfl rfl (by simp; omega) (by simp)) ?_ | refine gl_u (o_storeA rfl rfl rfl rfl rfl) ?_
   refine gl_nil ?_
   refine ge_then ?_
   refine g_ret ?_
   refine ge_then_ret ?_
   refine ge_block_ret ?_
   refine ge_then_ret ?_
   refine ret1c (.inl rfl) rfl rfl rfl rfl _ (⟨by first | rfl | (show _ = Value.agg (askN B v (y0 :: r)).cells.toArray; simp only [askN]; first | rw [if_pos hy]; rfl | rw [if_neg hy]; rfl) | (show _ = Value.agg (goneN B (y0 :: r)).cells.toArray; simp only [goneN]; first | rw [if_pos hy]; rfl | rw [if_neg hy]; rfl), rfl⟩) (To.sat (by repeat (first | exact .nil | exact .done .refl | (apply To.cons; · (repeat (first | exact .head | apply Sel.tail))) | exact .done (by repeat (first | exact .refl | apply Drop.skip)))))
  ·
   first | replace hc2 := of_decide_eq_true hc2 | replace hc2 := lt_f hc2 | replace hc2 := le_f hc2 | replace hc2 := dec_f hc2 | replace hc2 := nlt_t hc2 | replace hc2 := nle_t hc2 | replace hc2 := ndec_t hc2 | replace hc2 := ndec_f hc2 | replace hc2 := nn_t hc2 | replace hc2 := nn_f hc2 | skip
   have hy : y0 ≠ 0 := hc2
   refine g_skip ?_
   refine ge_then ?_
   refine g_seq ?_
   haveI := hr.inst
   obtain ⟨a1, ha1⟩ : ∃ a1, a1 = (if c = 1 then a else a.map (fun x : Addr => x.add (1 * 1))) := ⟨_, rfl⟩
   obtain ⟨c1, hc1'⟩ : ∃ c1, c1 = c - 1 := ⟨_, rfl⟩
   have hr1 : Rd A a1 c1 r := by rw [ha1, hc1']; exact hr.from (i := 1) (by simp)
   refine g_draw [2, 8, 9] [2] [(0, .stab), (1, .loc), (3, .stab), (4, .stab), (5, .stab), (6, .stab), (7, .stab), (2, .eff), (8, .eff), (9, .eff)] [cel b3 52 [I64 3, U64 v, .slice a (y0 :: r).length c], cel b2 25 [I64 B.b, I64 B.nm, I64 B.nn]] mixed (by kernel_rfl) ?_
   first | refine go_vs rfl .none rfl (o_loadSA rfl rfl rfl) (To.sat (by repeat (first | exact .nil | exact .done .refl | (apply To.cons; · (repeat (first | exact .head | apply Sel.tail))) | exact .done (by repeat (first | exact .refl | apply Drop.skip))))) ?_ | refine go_vs rfl .none rfl (o_loadA rfl rfl rfl) (To.sat (by repeat (first | exact .nil | exact .done .refl | (apply To.cons; · (repeat (first | exact .head | apply Sel.tail))) | exact .done (by repeat (first | exact .refl | apply Drop.skip))))) ?_
   first | refine go_v rfl .none rfl (o_loadSA rfl rfl rfl) ?_ | refine go_v rfl .none rfl (o_loadA rfl rfl rfl) ?_
   first | refine go_vs rfl .none rfl (o_fldS rfl) (To.sat (by repeat (first | exact .nil | exact .done .refl | (apply To.cons; · (repeat (first | exact .head | apply Sel.tail))) | exact .done (by repeat (first | exact .refl | apply Drop.skip))))) ?_ | refine go_vs rfl .none rfl (o_fld rfl) (To.sat (by repeat (first | exact .nil | exact .done .refl | (apply To.cons; · (repeat (first | exact .head | apply Sel.tail))) | exact .done (by repeat (first | exact .refl | apply Drop.skip))))) ?_
   first | refine go_vs rfl .none rfl (o_load rfl rfl) (To.sat (by repeat (first | exact .nil | exact .done .refl | (apply To.cons; · (repeat (first | exact .head | apply Sel.tail))) | exact .done (by repeat (first | exact .refl | apply Drop.skip))))) ?_ | refine go_vs rfl .none rfl (o_loadS rfl rfl) (To.sat (by repeat (first | exact .nil | exact .done .refl | (apply To.cons; · (repeat (first | exact .head | apply Sel.tail))) | exact .done (by repeat (first | exact .refl | apply Drop.skip))))) ?_ | refine go_vs rfl .none rfl (o_loadC rfl) (To.sat (by repeat (first | exact .nil | exact .done .refl | (apply To.cons; · (repeat (first | exact .head | apply Sel.tail))) | exact .done (by repeat (first | exact .refl | apply Drop.skip))))) ?_
   first | refine go_vs rfl .none rfl (o_fldS rfl) (To.sat (by repeat (first | exact .nil | exact .done .refl | (apply To.cons; · (repeat (first | exact .head | apply Sel.tail))) | exact .done (by repeat (first | exact .refl | apply Drop.skip))))) ?_ | refine go_vs rfl .none rfl (o_fld rfl) (To.sat (by repeat (first | exact .nil | exact .done .refl | (apply To.cons; · (repeat (first | exact .head | apply Sel.tail))) | exact .done (by repeat (first | exact .refl | apply Drop.skip))))) ?_
   first | refine go_vs rfl .none rfl (o_load rfl rfl) (To.sat (by repeat (first | exact .nil | exact .done .refl | (apply To.cons; · (repeat (first | exact .head | apply Sel.tail))) | exact .done (by repeat (first | exact .refl | apply Drop.skip))))) ?_ | refine go_vs rfl .none rfl (o_loadS rfl rfl) (To.sat (by repeat (first | exact .nil | exact .done .refl | (apply To.cons; · (repeat (first | exact .head | apply Sel.tail))) | exact .done (by repeat (first | exact .refl | apply Drop.skip))))) ?_ | refine go_vs rfl .none rfl (o_loadC rfl) (To.sat (by repeat (first | exact .nil | exact .done .refl | (apply To.cons; · (repeat (first | exact .head | apply Sel.tail))) | exact .done (by repeat (first | exact .refl | apply Drop.skip))))) ?_
   refine go_vs rfl .none rfl (o_slFrom (i := 1) rfl rfl (by simp)) (To.sat (by repeat (first | exact .nil | exact .done .refl | (apply To.cons; · (repeat (first | exact .head | apply Sel.tail))) | exact .done (by repeat (first | exact .refl | apply Drop.skip))))) ?_
   rw [← ha1, ← hc1', show (y0 :: r).length - 1 = r.length by simp]
   refine go_c rfl .none rfl (o_call rfl (noteR_spec B hB) (by repeat (first | exact .nil | (apply Part.cons; · (repeat (first | exact .head | apply Sel.tail)))))) ?_
   rintro _ R ⟨_, ⟨rfl, rfl⟩, rfl⟩
   try simp only [List.cons_append, List.nil_append]
   refine ⟨(fun _ => (To.sat (by repeat (first | exact .nil | exact .done .refl | (apply To.cons; · (repeat (first | exact .head | apply Sel.tail))) | exact .done (by repeat (first | exact .refl | apply Drop.skip)))))), ?_⟩
   refine go_c rfl .none rfl (o_call rfl (rlayP_spec B hB true v a1 c1 r (fun x hx => hl x (List.mem_cons_of_mem _ hx)) (by simp at hm; omega) A hr1) (by repeat (first | exact .nil | (apply Part.cons; · (repeat (first | exact .head | apply Sel.tail)))))) ?_
   rintro _ R ⟨_, ⟨rfl, rfl⟩, rfl⟩
   try simp only [List.cons_append, List.nil_append]
   refine ⟨(fun hG => absurd hG (by decide)), ?_⟩
   first | refine go_u rfl .none (o_storeSA rfl rfl rfl rfl (by simp; omega) (by simp)) (fun hG => absurd hG (by decide)) ?_ | refine go_u rfl .none (o_storeA rfl rfl rfl rfl rfl) (fun hG => absurd hG (by decide)) ?_
   refine go_nil ?_
   refine ge_then ?_
   refine g_ret ?_
   refine ge_block_ret ?_
   refine ge_then_ret ?_
   refine ret1c (.inl rfl) rfl rfl rfl rfl _ (⟨by first | rfl | (show _ = Value.agg (askN B v (y0 :: r)).cells.toArray; simp only [askN]; first | rw [if_pos hy]; rfl | rw [if_neg hy]; rfl) | (show _ = Value.agg (goneN B (y0 :: r)).cells.toArray; simp only [goneN]; first | rw [if_pos hy]; rfl | rw [if_neg hy]; rfl), rfl⟩) (To.sat (by repeat (first | exact .nil | exact .done .refl | (apply To.cons; · (repeat (first | exact .head | apply Sel.tail))) | exact .done (by repeat (first | exact .refl | apply Drop.skip)))))

set_option maxRecDepth 8000 in
set_option maxHeartbeats 1000000 in
theorem rnextP_4 (B : PB) (hB : 1 ≤ B.nm ∧ B.nm ≤ 64 ∧ 1 ≤ B.nn ∧ B.nn ≤ 64 ∧ B.b ≤ 60000) (v : Int) (hv : 0 ≤ v ∧ v ≤ 18446744073709551615) (a : Option Addr) (c : Nat) (l : List Int) (hl : LI l) (hm : l.length ≤ 80000) (A : Assn) (hr : Rd A a c l) : FnS Tryz.prog 17 [boxV B, opV' 4 v (.slice a l.length c)] [A] (fun u Bs => u = .agg (nextP B 4 v l).cells.toArray ∧ Bs = [A]) := by
 refine fn_body Tryz.func17 rfl rfl rfl ?_
 intro W0 R
 simp only [List.zipIdx_cons, List.zipIdx_nil, List.map_cons, List.map_nil, Nat.zero_add, Nat.reduceAdd, List.cons_append, List.nil_append]
 have hrb : 1 ≤ B.rn false ∧ B.rn false ≤ 64 ∧ B.rb false ≤ 65536 := by simp [PB.rb, PB.rn]; omega
 refine g_seq ?_
 refine g_region ?_
 refine gl_n rfl (o_boxA rfl) ?_
 rintro _ _ ⟨b2, rfl, rfl⟩
 refine gl_n rfl (o_boxA rfl) ?_
 rintro _ _ ⟨b3, rfl, rfl⟩
 refine gl_n rfl (o_alloc) ?_
 rintro _ _ ⟨b4, rfl, rfl⟩
 refine gl_nil ?_
 refine ge_then ?_
 refine g_seq ?_
 refine g_seq ?_
 refine g_region ?_
 first | refine gl_v rfl (o_fldS rfl) ?_ | refine gl_v rfl (o_fld rfl) ?_
 first | refine gl_v rfl (o_load rfl rfl) ?_ | refine gl_v rfl (o_loadS rfl rfl) ?_ | refine gl_v rfl (o_loadC rfl) ?_
 refine gl_nil ?_
 refine ge_then ?_
 refine g_block ?_
 refine g_seq ?_
 refine g_region ?_
 refine gl_v rfl (o_is (c := false) (by first | rfl | exact decide_eq_false (by omega)) (o_eql rfl rfl)) ?_
 refine gl_v rfl (o_assign rfl) ?_
 refine gl_nil ?_
 refine ge_then ?_
 refine g_cond_false rfl ?_
 refine g_seq ?_
 refine g_region ?_
 refine gl_v rfl (o_is (c := false) (by first | rfl | exact decide_eq_false (by omega)) (o_eql rfl rfl)) ?_
 refine gl_v rfl (o_assign rfl) ?_
 refine gl_nil ?_
 refine ge_then ?_
 refine g_cond_false rfl ?_
 refine g_seq ?_
 refine g_region ?_
 refine gl_v rfl (o_is (c := false) (by first | rfl | exact decide_eq_false (by omega)) (o_eql rfl rfl)) ?_
 refine gl_v rfl (o_assign rfl) ?_
 refine gl_nil ?_
 refine ge_then ?_
 refine g_cond_false rfl ?_
 refine g_seq ?_
 refine g_region ?_
 refine gl_v rfl (o_is (c := true) (by first | rfl | exact decide_eq_true (by omega)) (o_eql rfl rfl)) ?_
 refine gl_v rfl (o_assign rfl) ?_
 refine gl_nil ?_
 refine ge_then ?_
 refine g_cond_true rfl ?_
 refine g_seq ?_
 refine g_region ?_
 first | refine gl_v rfl (o_loadSA rfl rfl rfl) ?_ | refine gl_v rfl (o_loadA rfl rfl rfl) ?_
 first | refine gl_v rfl (o_fldS rfl) ?_ | refine gl_v rfl (o_fld rfl) ?_
 first | refine gl_v rfl (o_load rfl rfl) ?_ | refine gl_v rfl (o_loadS rfl rfl) ?_ | refine gl_v rfl (o_loadC rfl) ?_
 refine gl_c rfl (o_call rfl (store_spec B hB 2 a c l hl (by omega) A hr) (by repeat (first | exact .nil | (apply Part.cons; · (repeat (first | exact .head | apply Sel.tail)))))) ?_
 rintro _ R ⟨_, ⟨rfl, rfl⟩, rfl⟩
 try simp only [List.cons_append, List.nil_append]
 first | refine gl_u (o_storeSA rfl rfl rfl rfl (by simp; omega) (by simp)) ?_ | refine gl_u (o_storeA rfl rfl rfl rfl rfl) ?_
 refine gl_nil ?_
 refine ge_then ?_
 refine g_ret ?_
 refine ge_block_ret ?_
 refine ge_then_ret ?_
 refine ret1c (.inl rfl) rfl rfl rfl rfl _ (⟨by first | rfl | (show _ = Value.agg (askN B v (y0 :: r)).cells.toArray; simp only [askN]; first | rw [if_pos hy]; rfl | rw [if_neg hy]; rfl) | (show _ = Value.agg (goneN B (y0 :: r)).cells.toArray; simp only [goneN]; first | rw [if_pos hy]; rfl | rw [if_neg hy]; rfl), rfl⟩) (To.sat (by repeat (first | exact .nil | exact .done .refl | (apply To.cons; · (repeat (first | exact .head | apply Sel.tail))) | exact .done (by repeat (first | exact .refl | apply Drop.skip)))))

set_option maxRecDepth 8000 in
set_option maxHeartbeats 1000000 in
theorem rnextP_5 (B : PB) (hB : 1 ≤ B.nm ∧ B.nm ≤ 64 ∧ 1 ≤ B.nn ∧ B.nn ≤ 64 ∧ B.b ≤ 60000) (v : Int) (hv : 0 ≤ v ∧ v ≤ 18446744073709551615) (a : Option Addr) (c : Nat) (l : List Int) (hl : LI l) (hm : l.length ≤ 80000) (A : Assn) (hr : Rd A a c l) : FnS Tryz.prog 17 [boxV B, opV' 5 v (.slice a l.length c)] [A] (fun u Bs => u = .agg (nextP B 5 v l).cells.toArray ∧ Bs = [A]) := by
 refine fn_body Tryz.func17 rfl rfl rfl ?_
 intro W0 R
 simp only [List.zipIdx_cons, List.zipIdx_nil, List.map_cons, List.map_nil, Nat.zero_add, Nat.reduceAdd, List.cons_append, List.nil_append]
 have hrb : 1 ≤ B.rn false ∧ B.rn false ≤ 64 ∧ B.rb false ≤ 65536 := by simp [PB.rb, PB.rn]; omega
 refine g_seq ?_
 refine g_region ?_
 refine gl_n rfl (o_boxA rfl) ?_
 rintro _ _ ⟨b2, rfl, rfl⟩
 refine gl_n rfl (o_boxA rfl) ?_
 rintro _ _ ⟨b3, rfl, rfl⟩
 refine gl_n rfl (o_alloc) ?_
 rintro _ _ ⟨b4, rfl, rfl⟩
 refine gl_nil ?_
 refine ge_then ?_
 refine g_seq ?_
 refine g_seq ?_
 refine g_region ?_
 first | refine gl_v rfl (o_fldS rfl) ?_ | refine gl_v rfl (o_fld rfl) ?_
 first | refine gl_v rfl (o_load rfl rfl) ?_ | refine gl_v rfl (o_loadS rfl rfl) ?_ | refine gl_v rfl (o_loadC rfl) ?_
 refine gl_nil ?_
 refine ge_then ?_
 refine g_block ?_
 refine g_seq ?_
 refine g_region ?_
 refine gl_v rfl (o_is (c := false) (by first | rfl | exact decide_eq_false (by omega)) (o_eql rfl rfl)) ?_
 refine gl_v rfl (o_assign rfl) ?_
 refine gl_nil ?_
 refine ge_then ?_
 refine g_cond_false rfl ?_
 refine g_seq ?_
 refine g_region ?_
 refine gl_v rfl (o_is (c := false) (by first | rfl | exact decide_eq_false (by omega)) (o_eql rfl rfl)) ?_
 refine gl_v rfl (o_assign rfl) ?_
 refine gl_nil ?_
 refine ge_then ?_
 refine g_cond_false rfl ?_
 refine g_seq ?_
 refine g_region ?_
 refine gl_v rfl (o_is (c := false) (by first | rfl | exact decide_eq_false (by omega)) (o_eql rfl rfl)) ?_
 refine gl_v rfl (o_assign rfl) ?_
 refine gl_nil ?_
 refine ge_then ?_
 refine g_cond_false rfl ?_
 refine g_seq ?_
 refine g_region ?_
 refine gl_v rfl (o_is (c := false) (by first | rfl | exact decide_eq_false (by omega)) (o_eql rfl rfl)) ?_
 refine gl_v rfl (o_assign rfl) ?_
 refine gl_nil ?_
 refine ge_then ?_
 refine g_cond_false rfl ?_
 refine g_seq ?_
 refine g_region ?_
 refine gl_v rfl (o_is (c := false) (by first | rfl | exact decide_eq_false (by omega)) (o_eql rfl rfl)) ?_
 refine gl_v rfl (o_assign rfl) ?_
 refine gl_nil ?_
 refine ge_then ?_
 refine g_cond_false rfl ?_
 refine g_seq ?_
 refine g_region ?_
 refine gl_v rfl (o_is (c := false) (by first | rfl | exact decide_eq_false (by omega)) (o_eql rfl rfl)) ?_
 refine gl_v rfl (o_assign rfl) ?_
 refine gl_nil ?_
 refine ge_then ?_
 refine g_cond_false rfl ?_
 refine g_seq ?_
 refine g_region ?_
 refine gl_v rfl (o_is (c := false) (by first | rfl | exact decide_eq_false (by omega)) (o_eql rfl rfl)) ?_
 refine gl_v rfl (o_assign rfl) ?_
 refine gl_nil ?_
 refine ge_then ?_
 refine g_cond_false rfl ?_
 refine g_seq ?_
 refine g_region ?_
 refine gl_v rfl (o_is (c := false) (by first | rfl | exact decide_eq_false (by omega)) (o_eql rfl rfl)) ?_
 refine gl_v rfl (o_assign rfl) ?_
 refine gl_nil ?_
 refine ge_then ?_
 refine g_cond_false rfl ?_
 refine g_skip ?_
 refine ge_block ?_
 refine ge_then ?_
 refine g_seq ?_
 refine g_region ?_
 first | refine gl_v rfl (o_loadSA rfl rfl rfl) ?_ | refine gl_v rfl (o_loadA rfl rfl rfl) ?_
 refine gl_c rfl (o_call rfl (mailR_spec B hB) (by repeat (first | exact .nil | (apply Part.cons; · (repeat (first | exact .head | apply Sel.tail)))))) ?_
 rintro _ R ⟨_, ⟨rfl, rfl⟩, rfl⟩
 try simp only [List.cons_append, List.nil_append]
 refine gl_n rfl (o_alloc) ?_
 rintro _ _ ⟨b6, rfl, rfl⟩
 refine gl_v rfl (o_assign rfl) ?_
 first | refine gl_u (o_storeSA rfl rfl rfl rfl (by simp; omega) (by simp)) ?_ | refine gl_u (o_storeA rfl rfl rfl rfl rfl) ?_
 refine gl_nil ?_
 refine ge_then ?_
 refine g_seq ?_
 refine g_seq ?_
 refine g_region ?_
 first | refine gl_v rfl (o_fldS rfl) ?_ | refine gl_v rfl (o_fld rfl) ?_
 first | refine gl_v rfl (o_load rfl rfl) ?_ | refine gl_v rfl (o_loadS rfl rfl) ?_ | refine gl_v rfl (o_loadC rfl) ?_
 refine gl_nil ?_
 refine ge_then ?_
 refine g_block ?_
 refine g_seq ?_
 refine g_region ?_
 refine gl_v rfl (o_is (c := false) (by first | rfl | exact decide_eq_false (by omega)) (o_eql rfl rfl)) ?_
 refine gl_v rfl (o_assign rfl) ?_
 refine gl_nil ?_
 refine ge_then ?_
 refine g_cond_false rfl ?_
 refine g_seq ?_
 refine g_region ?_
 refine gl_v rfl (o_is (c := false) (by first | rfl | exact decide_eq_false (by omega)) (o_eql rfl rfl)) ?_
 refine gl_v rfl (o_assign rfl) ?_
 refine gl_nil ?_
 refine ge_then ?_
 refine g_cond_false rfl ?_
 refine g_seq ?_
 refine g_region ?_
 refine gl_v rfl (o_is (c := false) (by first | rfl | exact decide_eq_false (by omega)) (o_eql rfl rfl)) ?_
 refine gl_v rfl (o_assign rfl) ?_
 refine gl_nil ?_
 refine ge_then ?_
 refine g_cond_false rfl ?_
 refine g_skip ?_
 refine ge_block ?_
 refine ge_then ?_
 refine g_seq ?_
 refine g_region ?_
 first | refine gl_v rfl (o_loadSA rfl rfl rfl) ?_ | refine gl_v rfl (o_loadA rfl rfl rfl) ?_
 refine gl_v rfl (o_move rfl) ?_
 first | refine gl_v rfl (o_fldS rfl) ?_ | refine gl_v rfl (o_fld rfl) ?_
 first | refine gl_v rfl (o_load rfl rfl) ?_ | refine gl_v rfl (o_loadS rfl rfl) ?_ | refine gl_v rfl (o_loadC rfl) ?_
 refine gl_c rfl (o_call rfl (rpart_spec (B.rb false) (B.rn false) hrb.1 hrb.2.1 hrb.2.2 2 0 (by decide) a c l hl (by omega) A hr) (by repeat (first | exact .nil | (apply Part.cons; · (repeat (first | exact .head | apply Sel.tail)))))) ?_
 rintro _ R ⟨_, ⟨rfl, rfl⟩, rfl⟩
 try simp only [List.cons_append, List.nil_append]
 refine gl_v rfl (o_move rfl) ?_
 refine gl_v rfl (o_extract rfl rfl) ?_
 refine gl_v rfl (o_extract rfl rfl) ?_
 refine gl_n rfl (o_alloc) ?_
 rintro _ _ ⟨b7, rfl, rfl⟩
 first | refine gl_u (o_storeSA rfl rfl rfl rfl (by simp; omega) (by simp)) ?_ | refine gl_u (o_storeA rfl rfl rfl rfl rfl) ?_
 refine gl_v rfl (o_assign rfl) ?_
 refine gl_nil ?_
 refine ge_then ?_
 refine g_seq ?_
 refine g_region ?_
 first | refine gl_v rfl (o_loadSA rfl rfl rfl) ?_ | refine gl_v rfl (o_loadA rfl rfl rfl) ?_
 first | refine gl_u (o_storeSA rfl rfl rfl rfl (by simp; omega) (by simp)) ?_ | refine gl_u (o_storeA rfl rfl rfl rfl rfl) ?_
 refine gl_nil ?_
 refine ge_then ?_
 refine g_ret ?_
 refine ret1c (.inl rfl) rfl rfl rfl rfl _ (⟨by first | rfl | (show _ = Value.agg (askN B v (y0 :: r)).cells.toArray; simp only [askN]; first | rw [if_pos hy]; rfl | rw [if_neg hy]; rfl) | (show _ = Value.agg (goneN B (y0 :: r)).cells.toArray; simp only [goneN]; first | rw [if_pos hy]; rfl | rw [if_neg hy]; rfl), rfl⟩) (To.sat (by repeat (first | exact .nil | exact .done .refl | (apply To.cons; · (repeat (first | exact .head | apply Sel.tail))) | exact .done (by repeat (first | exact .refl | apply Drop.skip)))))

set_option maxRecDepth 8000 in
set_option maxHeartbeats 1000000 in
theorem rnextP_6 (B : PB) (hB : 1 ≤ B.nm ∧ B.nm ≤ 64 ∧ 1 ≤ B.nn ∧ B.nn ≤ 64 ∧ B.b ≤ 60000) (v : Int) (hv : 0 ≤ v ∧ v ≤ 18446744073709551615) (a : Option Addr) (c : Nat) (l : List Int) (hl : LI l) (hm : l.length ≤ 80000) (A : Assn) (hr : Rd A a c l) : FnS Tryz.prog 17 [boxV B, opV' 6 v (.slice a l.length c)] [A] (fun u Bs => u = .agg (nextP B 6 v l).cells.toArray ∧ Bs = [A]) := by
 refine fn_body Tryz.func17 rfl rfl rfl ?_
 intro W0 R
 simp only [List.zipIdx_cons, List.zipIdx_nil, List.map_cons, List.map_nil, Nat.zero_add, Nat.reduceAdd, List.cons_append, List.nil_append]
 have hrb : 1 ≤ B.rn true ∧ B.rn true ≤ 64 ∧ B.rb true ≤ 65536 := by simp [PB.rb, PB.rn]; omega
 refine g_seq ?_
 refine g_region ?_
 refine gl_n rfl (o_boxA rfl) ?_
 rintro _ _ ⟨b2, rfl, rfl⟩
 refine gl_n rfl (o_boxA rfl) ?_
 rintro _ _ ⟨b3, rfl, rfl⟩
 refine gl_n rfl (o_alloc) ?_
 rintro _ _ ⟨b4, rfl, rfl⟩
 refine gl_nil ?_
 refine ge_then ?_
 refine g_seq ?_
 refine g_seq ?_
 refine g_region ?_
 first | refine gl_v rfl (o_fldS rfl) ?_ | refine gl_v rfl (o_fld rfl) ?_
 first | refine gl_v rfl (o_load rfl rfl) ?_ | refine gl_v rfl (o_loadS rfl rfl) ?_ | refine gl_v rfl (o_loadC rfl) ?_
 refine gl_nil ?_
 refine ge_then ?_
 refine g_block ?_
 refine g_seq ?_
 refine g_region ?_
 refine gl_v rfl (o_is (c := false) (by first | rfl | exact decide_eq_false (by omega)) (o_eql rfl rfl)) ?_
 refine gl_v rfl (o_assign rfl) ?_
 refine gl_nil ?_
 refine ge_then ?_
 refine g_cond_false rfl ?_
 refine g_seq ?_
 refine g_region ?_
 refine gl_v rfl (o_is (c := false) (by first | rfl | exact decide_eq_false (by omega)) (o_eql rfl rfl)) ?_
 refine gl_v rfl (o_assign rfl) ?_
 refine gl_nil ?_
 refine ge_then ?_
 refine g_cond_false rfl ?_
 refine g_seq ?_
 refine g_region ?_
 refine gl_v rfl (o_is (c := false) (by first | rfl | exact decide_eq_false (by omega)) (o_eql rfl rfl)) ?_
 refine gl_v rfl (o_assign rfl) ?_
 refine gl_nil ?_
 refine ge_then ?_
 refine g_cond_false rfl ?_
 refine g_seq ?_
 refine g_region ?_
 refine gl_v rfl (o_is (c := false) (by first | rfl | exact decide_eq_false (by omega)) (o_eql rfl rfl)) ?_
 refine gl_v rfl (o_assign rfl) ?_
 refine gl_nil ?_
 refine ge_then ?_
 refine g_cond_false rfl ?_
 refine g_seq ?_
 refine g_region ?_
 refine gl_v rfl (o_is (c := false) (by first | rfl | exact decide_eq_false (by omega)) (o_eql rfl rfl)) ?_
 refine gl_v rfl (o_assign rfl) ?_
 refine gl_nil ?_
 refine ge_then ?_
 refine g_cond_false rfl ?_
 refine g_seq ?_
 refine g_region ?_
 refine gl_v rfl (o_is (c := false) (by first | rfl | exact decide_eq_false (by omega)) (o_eql rfl rfl)) ?_
 refine gl_v rfl (o_assign rfl) ?_
 refine gl_nil ?_
 refine ge_then ?_
 refine g_cond_false rfl ?_
 refine g_seq ?_
 refine g_region ?_
 refine gl_v rfl (o_is (c := false) (by first | rfl | exact decide_eq_false (by omega)) (o_eql rfl rfl)) ?_
 refine gl_v rfl (o_assign rfl) ?_
 refine gl_nil ?_
 refine ge_then ?_
 refine g_cond_false rfl ?_
 refine g_seq ?_
 refine g_region ?_
 refine gl_v rfl (o_is (c := false) (by first | rfl | exact decide_eq_false (by omega)) (o_eql rfl rfl)) ?_
 refine gl_v rfl (o_assign rfl) ?_
 refine gl_nil ?_
 refine ge_then ?_
 refine g_cond_false rfl ?_
 refine g_skip ?_
 refine ge_block ?_
 refine ge_then ?_
 refine g_seq ?_
 refine g_region ?_
 first | refine gl_v rfl (o_loadSA rfl rfl rfl) ?_ | refine gl_v rfl (o_loadA rfl rfl rfl) ?_
 refine gl_c rfl (o_call rfl (mailR_spec B hB) (by repeat (first | exact .nil | (apply Part.cons; · (repeat (first | exact .head | apply Sel.tail)))))) ?_
 rintro _ R ⟨_, ⟨rfl, rfl⟩, rfl⟩
 try simp only [List.cons_append, List.nil_append]
 refine gl_n rfl (o_alloc) ?_
 rintro _ _ ⟨b6, rfl, rfl⟩
 refine gl_v rfl (o_assign rfl) ?_
 first | refine gl_u (o_storeSA rfl rfl rfl rfl (by simp; omega) (by simp)) ?_ | refine gl_u (o_storeA rfl rfl rfl rfl rfl) ?_
 refine gl_nil ?_
 refine ge_then ?_
 refine g_seq ?_
 refine g_seq ?_
 refine g_region ?_
 first | refine gl_v rfl (o_fldS rfl) ?_ | refine gl_v rfl (o_fld rfl) ?_
 first | refine gl_v rfl (o_load rfl rfl) ?_ | refine gl_v rfl (o_loadS rfl rfl) ?_ | refine gl_v rfl (o_loadC rfl) ?_
 refine gl_nil ?_
 refine ge_then ?_
 refine g_block ?_
 refine g_seq ?_
 refine g_region ?_
 refine gl_v rfl (o_is (c := true) (by first | rfl | exact decide_eq_true (by omega)) (o_eql rfl rfl)) ?_
 refine gl_v rfl (o_assign rfl) ?_
 refine gl_nil ?_
 refine ge_then ?_
 refine g_cond_true rfl ?_
 refine g_region ?_
 first | refine gl_v rfl (o_loadSA rfl rfl rfl) ?_ | refine gl_v rfl (o_loadA rfl rfl rfl) ?_
 refine gl_c rfl (o_call rfl (noteR_spec B hB) (by repeat (first | exact .nil | (apply Part.cons; · (repeat (first | exact .head | apply Sel.tail)))))) ?_
 rintro _ R ⟨_, ⟨rfl, rfl⟩, rfl⟩
 try simp only [List.cons_append, List.nil_append]
 first | refine gl_u (o_storeSA rfl rfl rfl rfl (by simp; omega) (by simp)) ?_ | refine gl_u (o_storeA rfl rfl rfl rfl rfl) ?_
 refine gl_nil ?_
 refine ge_block ?_
 refine ge_then ?_
 refine g_seq ?_
 refine g_region ?_
 first | refine gl_v rfl (o_loadSA rfl rfl rfl) ?_ | refine gl_v rfl (o_loadA rfl rfl rfl) ?_
 refine gl_v rfl (o_move rfl) ?_
 first | refine gl_v rfl (o_fldS rfl) ?_ | refine gl_v rfl (o_fld rfl) ?_
 first | refine gl_v rfl (o_load rfl rfl) ?_ | refine gl_v rfl (o_loadS rfl rfl) ?_ | refine gl_v rfl (o_loadC rfl) ?_
 refine gl_c rfl (o_call rfl (rpart_spec (B.rb true) (B.rn true) hrb.1 hrb.2.1 hrb.2.2 2 0 (by decide) a c l hl (by omega) A hr) (by repeat (first | exact .nil | (apply Part.cons; · (repeat (first | exact .head | apply Sel.tail)))))) ?_
 rintro _ R ⟨_, ⟨rfl, rfl⟩, rfl⟩
 try simp only [List.cons_append, List.nil_append]
 refine gl_v rfl (o_move rfl) ?_
 refine gl_v rfl (o_extract rfl rfl) ?_
 refine gl_v rfl (o_extract rfl rfl) ?_
 refine gl_n rfl (o_alloc) ?_
 rintro _ _ ⟨b7, rfl, rfl⟩
 first | refine gl_u (o_storeSA rfl rfl rfl rfl (by simp; omega) (by simp)) ?_ | refine gl_u (o_storeA rfl rfl rfl rfl rfl) ?_
 refine gl_v rfl (o_assign rfl) ?_
 refine gl_nil ?_
 refine ge_then ?_
 refine g_seq ?_
 refine g_region ?_
 first | refine gl_v rfl (o_loadSA rfl rfl rfl) ?_ | refine gl_v rfl (o_loadA rfl rfl rfl) ?_
 first | refine gl_u (o_storeSA rfl rfl rfl rfl (by simp; omega) (by simp)) ?_ | refine gl_u (o_storeA rfl rfl rfl rfl rfl) ?_
 refine gl_nil ?_
 refine ge_then ?_
 refine g_ret ?_
 refine ret1c (.inl rfl) rfl rfl rfl rfl _ (⟨by first | rfl | (show _ = Value.agg (askN B v (y0 :: r)).cells.toArray; simp only [askN]; first | rw [if_pos hy]; rfl | rw [if_neg hy]; rfl) | (show _ = Value.agg (goneN B (y0 :: r)).cells.toArray; simp only [goneN]; first | rw [if_pos hy]; rfl | rw [if_neg hy]; rfl), rfl⟩) (To.sat (by repeat (first | exact .nil | exact .done .refl | (apply To.cons; · (repeat (first | exact .head | apply Sel.tail))) | exact .done (by repeat (first | exact .refl | apply Drop.skip)))))

set_option maxRecDepth 8000 in
set_option maxHeartbeats 1000000 in
theorem rnextP_7 (B : PB) (hB : 1 ≤ B.nm ∧ B.nm ≤ 64 ∧ 1 ≤ B.nn ∧ B.nn ≤ 64 ∧ B.b ≤ 60000) (v : Int) (hv : 0 ≤ v ∧ v ≤ 18446744073709551615) (a : Option Addr) (c : Nat) (l : List Int) (hl : LI l) (hm : l.length ≤ 80000) (A : Assn) (hr : Rd A a c l) : FnS Tryz.prog 17 [boxV B, opV' 7 v (.slice a l.length c)] [A] (fun u Bs => u = .agg (nextP B 7 v l).cells.toArray ∧ Bs = [A]) := by
 refine fn_body Tryz.func17 rfl rfl rfl ?_
 intro W0 R
 simp only [List.zipIdx_cons, List.zipIdx_nil, List.map_cons, List.map_nil, Nat.zero_add, Nat.reduceAdd, List.cons_append, List.nil_append]
 have hrb : 1 ≤ B.rn false ∧ B.rn false ≤ 64 ∧ B.rb false ≤ 65536 := by simp [PB.rb, PB.rn]; omega
 refine g_seq ?_
 refine g_region ?_
 refine gl_n rfl (o_boxA rfl) ?_
 rintro _ _ ⟨b2, rfl, rfl⟩
 refine gl_n rfl (o_boxA rfl) ?_
 rintro _ _ ⟨b3, rfl, rfl⟩
 refine gl_n rfl (o_alloc) ?_
 rintro _ _ ⟨b4, rfl, rfl⟩
 refine gl_nil ?_
 refine ge_then ?_
 refine g_seq ?_
 refine g_seq ?_
 refine g_region ?_
 first | refine gl_v rfl (o_fldS rfl) ?_ | refine gl_v rfl (o_fld rfl) ?_
 first | refine gl_v rfl (o_load rfl rfl) ?_ | refine gl_v rfl (o_loadS rfl rfl) ?_ | refine gl_v rfl (o_loadC rfl) ?_
 refine gl_nil ?_
 refine ge_then ?_
 refine g_block ?_
 refine g_seq ?_
 refine g_region ?_
 refine gl_v rfl (o_is (c := false) (by first | rfl | exact decide_eq_false (by omega)) (o_eql rfl rfl)) ?_
 refine gl_v rfl (o_assign rfl) ?_
 refine gl_nil ?_
 refine ge_then ?_
 refine g_cond_false rfl ?_
 refine g_seq ?_
 refine g_region ?_
 refine gl_v rfl (o_is (c := false) (by first | rfl | exact decide_eq_false (by omega)) (o_eql rfl rfl)) ?_
 refine gl_v rfl (o_assign rfl) ?_
 refine gl_nil ?_
 refine ge_then ?_
 refine g_cond_false rfl ?_
 refine g_seq ?_
 refine g_region ?_
 refine gl_v rfl (o_is (c := false) (by first | rfl | exact decide_eq_false (by omega)) (o_eql rfl rfl)) ?_
 refine gl_v rfl (o_assign rfl) ?_
 refine gl_nil ?_
 refine ge_then ?_
 refine g_cond_false rfl ?_
 refine g_seq ?_
 refine g_region ?_
 refine gl_v rfl (o_is (c := false) (by first | rfl | exact decide_eq_false (by omega)) (o_eql rfl rfl)) ?_
 refine gl_v rfl (o_assign rfl) ?_
 refine gl_nil ?_
 refine ge_then ?_
 refine g_cond_false rfl ?_
 refine g_seq ?_
 refine g_region ?_
 refine gl_v rfl (o_is (c := false) (by first | rfl | exact decide_eq_false (by omega)) (o_eql rfl rfl)) ?_
 refine gl_v rfl (o_assign rfl) ?_
 refine gl_nil ?_
 refine ge_then ?_
 refine g_cond_false rfl ?_
 refine g_seq ?_
 refine g_region ?_
 refine gl_v rfl (o_is (c := false) (by first | rfl | exact decide_eq_false (by omega)) (o_eql rfl rfl)) ?_
 refine gl_v rfl (o_assign rfl) ?_
 refine gl_nil ?_
 refine ge_then ?_
 refine g_cond_false rfl ?_
 refine g_seq ?_
 refine g_region ?_
 refine gl_v rfl (o_is (c := false) (by first | rfl | exact decide_eq_false (by omega)) (o_eql rfl rfl)) ?_
 refine gl_v rfl (o_assign rfl) ?_
 refine gl_nil ?_
 refine ge_then ?_
 refine g_cond_false rfl ?_
 refine g_seq ?_
 refine g_region ?_
 refine gl_v rfl (o_is (c := true) (by first | rfl | exact decide_eq_true (by omega)) (o_eql rfl rfl)) ?_
 refine gl_v rfl (o_assign rfl) ?_
 refine gl_nil ?_
 refine ge_then ?_
 refine g_cond_true rfl ?_
 refine g_seq ?_
 refine g_region ?_
 first | refine gl_v rfl (o_loadSA rfl rfl rfl) ?_ | refine gl_v rfl (o_loadA rfl rfl rfl) ?_
 first | refine gl_v rfl (o_fldS rfl) ?_ | refine gl_v rfl (o_fld rfl) ?_
 first | refine gl_v rfl (o_load rfl rfl) ?_ | refine gl_v rfl (o_loadS rfl rfl) ?_ | refine gl_v rfl (o_loadC rfl) ?_
 refine gl_v rfl (o_eql rfl rfl) ?_
 first | refine gl_v rfl (o_fldS rfl) ?_ | refine gl_v rfl (o_fld rfl) ?_
 first | refine gl_v rfl (o_load rfl rfl) ?_ | refine gl_v rfl (o_loadS rfl rfl) ?_ | refine gl_v rfl (o_loadC rfl) ?_
 refine gl_c rfl (o_call rfl (settle_spec B hB (decide (v = 1)) a c l hl hm A hr) (by repeat (first | exact .nil | (apply Part.cons; · (repeat (first | exact .head | apply Sel.tail)))))) ?_
 rintro _ R ⟨_, ⟨rfl, rfl⟩, rfl⟩
 try simp only [List.cons_append, List.nil_append]
 first | refine gl_u (o_storeSA rfl rfl rfl rfl (by simp; omega) (by simp)) ?_ | refine gl_u (o_storeA rfl rfl rfl rfl rfl) ?_
 refine gl_nil ?_
 refine ge_then ?_
 refine g_ret ?_
 refine ge_block_ret ?_
 refine ge_then_ret ?_
 refine ret1c (.inl rfl) rfl rfl rfl rfl _ (⟨by first | rfl | (show _ = Value.agg (askN B v (y0 :: r)).cells.toArray; simp only [askN]; first | rw [if_pos hy]; rfl | rw [if_neg hy]; rfl) | (show _ = Value.agg (goneN B (y0 :: r)).cells.toArray; simp only [goneN]; first | rw [if_pos hy]; rfl | rw [if_neg hy]; rfl), rfl⟩) (To.sat (by repeat (first | exact .nil | exact .done .refl | (apply To.cons; · (repeat (first | exact .head | apply Sel.tail))) | exact .done (by repeat (first | exact .refl | apply Drop.skip)))))

set_option maxRecDepth 8000 in
set_option maxHeartbeats 1000000 in
theorem rnextP_8 (B : PB) (hB : 1 ≤ B.nm ∧ B.nm ≤ 64 ∧ 1 ≤ B.nn ∧ B.nn ≤ 64 ∧ B.b ≤ 60000) (v : Int) (hv : 0 ≤ v ∧ v ≤ 18446744073709551615) (a : Option Addr) (c : Nat) (l : List Int) (hl : LI l) (hm : l.length ≤ 80000) (A : Assn) (hr : Rd A a c l) : FnS Tryz.prog 17 [boxV B, opV' 8 v (.slice a l.length c)] [A] (fun u Bs => u = .agg (nextP B 8 v l).cells.toArray ∧ Bs = [A]) := by
 refine fn_body Tryz.func17 rfl rfl rfl ?_
 intro W0 R
 simp only [List.zipIdx_cons, List.zipIdx_nil, List.map_cons, List.map_nil, Nat.zero_add, Nat.reduceAdd, List.cons_append, List.nil_append]
 have hrb : 1 ≤ B.rn false ∧ B.rn false ≤ 64 ∧ B.rb false ≤ 65536 := by simp [PB.rb, PB.rn]; omega
 refine g_seq ?_
 refine g_region ?_
 refine gl_n rfl (o_boxA rfl) ?_
 rintro _ _ ⟨b2, rfl, rfl⟩
 refine gl_n rfl (o_boxA rfl) ?_
 rintro _ _ ⟨b3, rfl, rfl⟩
 refine gl_n rfl (o_alloc) ?_
 rintro _ _ ⟨b4, rfl, rfl⟩
 refine gl_nil ?_
 refine ge_then ?_
 refine g_seq ?_
 refine g_seq ?_
 refine g_region ?_
 first | refine gl_v rfl (o_fldS rfl) ?_ | refine gl_v rfl (o_fld rfl) ?_
 first | refine gl_v rfl (o_load rfl rfl) ?_ | refine gl_v rfl (o_loadS rfl rfl) ?_ | refine gl_v rfl (o_loadC rfl) ?_
 refine gl_nil ?_
 refine ge_then ?_
 refine g_block ?_
 refine g_seq ?_
 refine g_region ?_
 refine gl_v rfl (o_is (c := false) (by first | rfl | exact decide_eq_false (by omega)) (o_eql rfl rfl)) ?_
 refine gl_v rfl (o_assign rfl) ?_
 refine gl_nil ?_
 refine ge_then ?_
 refine g_cond_false rfl ?_
 refine g_seq ?_
 refine g_region ?_
 refine gl_v rfl (o_is (c := false) (by first | rfl | exact decide_eq_false (by omega)) (o_eql rfl rfl)) ?_
 refine gl_v rfl (o_assign rfl) ?_
 refine gl_nil ?_
 refine ge_then ?_
 refine g_cond_false rfl ?_
 refine g_seq ?_
 refine g_region ?_
 refine gl_v rfl (o_is (c := false) (by first | rfl | exact decide_eq_false (by omega)) (o_eql rfl rfl)) ?_
 refine gl_v rfl (o_assign rfl) ?_
 refine gl_nil ?_
 refine ge_then ?_
 refine g_cond_false rfl ?_
 refine g_seq ?_
 refine g_region ?_
 refine gl_v rfl (o_is (c := false) (by first | rfl | exact decide_eq_false (by omega)) (o_eql rfl rfl)) ?_
 refine gl_v rfl (o_assign rfl) ?_
 refine gl_nil ?_
 refine ge_then ?_
 refine g_cond_false rfl ?_
 refine g_seq ?_
 refine g_region ?_
 refine gl_v rfl (o_is (c := true) (by first | rfl | exact decide_eq_true (by omega)) (o_eql rfl rfl)) ?_
 refine gl_v rfl (o_assign rfl) ?_
 refine gl_nil ?_
 refine ge_then ?_
 refine g_cond_true rfl ?_
 refine g_seq ?_
 refine g_region ?_
 first | refine gl_v rfl (o_loadSA rfl rfl rfl) ?_ | refine gl_v rfl (o_loadA rfl rfl rfl) ?_
 first | refine gl_v rfl (o_fldS rfl) ?_ | refine gl_v rfl (o_fld rfl) ?_
 first | refine gl_v rfl (o_load rfl rfl) ?_ | refine gl_v rfl (o_loadS rfl rfl) ?_ | refine gl_v rfl (o_loadC rfl) ?_
 refine gl_c rfl (o_call rfl (store_spec B hB 1 a c l hl (by omega) A hr) (by repeat (first | exact .nil | (apply Part.cons; · (repeat (first | exact .head | apply Sel.tail)))))) ?_
 rintro _ R ⟨_, ⟨rfl, rfl⟩, rfl⟩
 try simp only [List.cons_append, List.nil_append]
 first | refine gl_u (o_storeSA rfl rfl rfl rfl (by simp; omega) (by simp)) ?_ | refine gl_u (o_storeA rfl rfl rfl rfl rfl) ?_
 refine gl_nil ?_
 refine ge_then ?_
 refine g_ret ?_
 refine ge_block_ret ?_
 refine ge_then_ret ?_
 refine ret1c (.inl rfl) rfl rfl rfl rfl _ (⟨by first | rfl | (show _ = Value.agg (askN B v (y0 :: r)).cells.toArray; simp only [askN]; first | rw [if_pos hy]; rfl | rw [if_neg hy]; rfl) | (show _ = Value.agg (goneN B (y0 :: r)).cells.toArray; simp only [goneN]; first | rw [if_pos hy]; rfl | rw [if_neg hy]; rfl), rfl⟩) (To.sat (by repeat (first | exact .nil | exact .done .refl | (apply To.cons; · (repeat (first | exact .head | apply Sel.tail))) | exact .done (by repeat (first | exact .refl | apply Drop.skip)))))

set_option maxRecDepth 8000 in
set_option maxHeartbeats 1000000 in
theorem rnextP_9 (B : PB) (hB : 1 ≤ B.nm ∧ B.nm ≤ 64 ∧ 1 ≤ B.nn ∧ B.nn ≤ 64 ∧ B.b ≤ 60000) (v : Int) (hv : 0 ≤ v ∧ v ≤ 18446744073709551615) (a : Option Addr) (c : Nat) (l : List Int) (hl : LI l) (hm : l.length ≤ 80000) (A : Assn) (hr : Rd A a c l) : FnS Tryz.prog 17 [boxV B, opV' 9 v (.slice a l.length c)] [A] (fun u Bs => u = .agg (nextP B 9 v l).cells.toArray ∧ Bs = [A]) := by
 refine fn_body Tryz.func17 rfl rfl rfl ?_
 intro W0 R
 simp only [List.zipIdx_cons, List.zipIdx_nil, List.map_cons, List.map_nil, Nat.zero_add, Nat.reduceAdd, List.cons_append, List.nil_append]
 have hrb : 1 ≤ B.rn false ∧ B.rn false ≤ 64 ∧ B.rb false ≤ 65536 := by simp [PB.rb, PB.rn]; omega
 refine g_seq ?_
 refine g_region ?_
 refine gl_n rfl (o_boxA rfl) ?_
 rintro _ _ ⟨b2, rfl, rfl⟩
 refine gl_n rfl (o_boxA rfl) ?_
 rintro _ _ ⟨b3, rfl, rfl⟩
 refine gl_n rfl (o_alloc) ?_
 rintro _ _ ⟨b4, rfl, rfl⟩
 refine gl_nil ?_
 refine ge_then ?_
 refine g_seq ?_
 refine g_seq ?_
 refine g_region ?_
 first | refine gl_v rfl (o_fldS rfl) ?_ | refine gl_v rfl (o_fld rfl) ?_
 first | refine gl_v rfl (o_load rfl rfl) ?_ | refine gl_v rfl (o_loadS rfl rfl) ?_ | refine gl_v rfl (o_loadC rfl) ?_
 refine gl_nil ?_
 refine ge_then ?_
 refine g_block ?_
 refine g_seq ?_
 refine g_region ?_
 refine gl_v rfl (o_is (c := false) (by first | rfl | exact decide_eq_false (by omega)) (o_eql rfl rfl)) ?_
 refine gl_v rfl (o_assign rfl) ?_
 refine gl_nil ?_
 refine ge_then ?_
 refine g_cond_false rfl ?_
 refine g_seq ?_
 refine g_region ?_
 refine gl_v rfl (o_is (c := false) (by first | rfl | exact decide_eq_false (by omega)) (o_eql rfl rfl)) ?_
 refine gl_v rfl (o_assign rfl) ?_
 refine gl_nil ?_
 refine ge_then ?_
 refine g_cond_false rfl ?_
 refine g_seq ?_
 refine g_region ?_
 refine gl_v rfl (o_is (c := false) (by first | rfl | exact decide_eq_false (by omega)) (o_eql rfl rfl)) ?_
 refine gl_v rfl (o_assign rfl) ?_
 refine gl_nil ?_
 refine ge_then ?_
 refine g_cond_false rfl ?_
 refine g_seq ?_
 refine g_region ?_
 refine gl_v rfl (o_is (c := false) (by first | rfl | exact decide_eq_false (by omega)) (o_eql rfl rfl)) ?_
 refine gl_v rfl (o_assign rfl) ?_
 refine gl_nil ?_
 refine ge_then ?_
 refine g_cond_false rfl ?_
 refine g_seq ?_
 refine g_region ?_
 refine gl_v rfl (o_is (c := false) (by first | rfl | exact decide_eq_false (by omega)) (o_eql rfl rfl)) ?_
 refine gl_v rfl (o_assign rfl) ?_
 refine gl_nil ?_
 refine ge_then ?_
 refine g_cond_false rfl ?_
 refine g_seq ?_
 refine g_region ?_
 refine gl_v rfl (o_is (c := false) (by first | rfl | exact decide_eq_false (by omega)) (o_eql rfl rfl)) ?_
 refine gl_v rfl (o_assign rfl) ?_
 refine gl_nil ?_
 refine ge_then ?_
 refine g_cond_false rfl ?_
 refine g_seq ?_
 refine g_region ?_
 refine gl_v rfl (o_is (c := false) (by first | rfl | exact decide_eq_false (by omega)) (o_eql rfl rfl)) ?_
 refine gl_v rfl (o_assign rfl) ?_
 refine gl_nil ?_
 refine ge_then ?_
 refine g_cond_false rfl ?_
 refine g_seq ?_
 refine g_region ?_
 refine gl_v rfl (o_is (c := false) (by first | rfl | exact decide_eq_false (by omega)) (o_eql rfl rfl)) ?_
 refine gl_v rfl (o_assign rfl) ?_
 refine gl_nil ?_
 refine ge_then ?_
 refine g_cond_false rfl ?_
 refine g_skip ?_
 refine ge_block ?_
 refine ge_then ?_
 refine g_seq ?_
 refine g_region ?_
 first | refine gl_v rfl (o_loadSA rfl rfl rfl) ?_ | refine gl_v rfl (o_loadA rfl rfl rfl) ?_
 refine gl_c rfl (o_call rfl (mailR_spec B hB) (by repeat (first | exact .nil | (apply Part.cons; · (repeat (first | exact .head | apply Sel.tail)))))) ?_
 rintro _ R ⟨_, ⟨rfl, rfl⟩, rfl⟩
 try simp only [List.cons_append, List.nil_append]
 refine gl_n rfl (o_alloc) ?_
 rintro _ _ ⟨b6, rfl, rfl⟩
 refine gl_v rfl (o_assign rfl) ?_
 first | refine gl_u (o_storeSA rfl rfl rfl rfl (by simp; omega) (by simp)) ?_ | refine gl_u (o_storeA rfl rfl rfl rfl rfl) ?_
 refine gl_nil ?_
 refine ge_then ?_
 refine g_seq ?_
 refine g_seq ?_
 refine g_region ?_
 first | refine gl_v rfl (o_fldS rfl) ?_ | refine gl_v rfl (o_fld rfl) ?_
 first | refine gl_v rfl (o_load rfl rfl) ?_ | refine gl_v rfl (o_loadS rfl rfl) ?_ | refine gl_v rfl (o_loadC rfl) ?_
 refine gl_nil ?_
 refine ge_then ?_
 refine g_block ?_
 refine g_seq ?_
 refine g_region ?_
 refine gl_v rfl (o_is (c := false) (by first | rfl | exact decide_eq_false (by omega)) (o_eql rfl rfl)) ?_
 refine gl_v rfl (o_assign rfl) ?_
 refine gl_nil ?_
 refine ge_then ?_
 refine g_cond_false rfl ?_
 refine g_seq ?_
 refine g_region ?_
 refine gl_v rfl (o_is (c := true) (by first | rfl | exact decide_eq_true (by omega)) (o_eql rfl rfl)) ?_
 refine gl_v rfl (o_assign rfl) ?_
 refine gl_nil ?_
 refine ge_then ?_
 refine g_cond_true rfl ?_
 refine g_region ?_
 refine gl_v rfl (o_assign rfl) ?_
 refine gl_nil ?_
 refine ge_block ?_
 refine ge_then ?_
 refine g_seq ?_
 refine g_region ?_
 first | refine gl_v rfl (o_loadSA rfl rfl rfl) ?_ | refine gl_v rfl (o_loadA rfl rfl rfl) ?_
 refine gl_v rfl (o_move rfl) ?_
 first | refine gl_v rfl (o_fldS rfl) ?_ | refine gl_v rfl (o_fld rfl) ?_
 first | refine gl_v rfl (o_load rfl rfl) ?_ | refine gl_v rfl (o_loadS rfl rfl) ?_ | refine gl_v rfl (o_loadC rfl) ?_
 refine gl_c rfl (o_call rfl (rpart_spec (B.rb false) (B.rn false) hrb.1 hrb.2.1 hrb.2.2 4 0 (by decide) a c l hl (by omega) A hr) (by repeat (first | exact .nil | (apply Part.cons; · (repeat (first | exact .head | apply Sel.tail)))))) ?_
 rintro _ R ⟨_, ⟨rfl, rfl⟩, rfl⟩
 try simp only [List.cons_append, List.nil_append]
 refine gl_v rfl (o_move rfl) ?_
 refine gl_v rfl (o_extract rfl rfl) ?_
 refine gl_v rfl (o_extract rfl rfl) ?_
 refine gl_n rfl (o_alloc) ?_
 rintro _ _ ⟨b7, rfl, rfl⟩
 first | refine gl_u (o_storeSA rfl rfl rfl rfl (by simp; omega) (by simp)) ?_ | refine gl_u (o_storeA rfl rfl rfl rfl rfl) ?_
 refine gl_v rfl (o_assign rfl) ?_
 refine gl_nil ?_
 refine ge_then ?_
 refine g_seq ?_
 refine g_region ?_
 first | refine gl_v rfl (o_loadSA rfl rfl rfl) ?_ | refine gl_v rfl (o_loadA rfl rfl rfl) ?_
 first | refine gl_u (o_storeSA rfl rfl rfl rfl (by simp; omega) (by simp)) ?_ | refine gl_u (o_storeA rfl rfl rfl rfl rfl) ?_
 refine gl_nil ?_
 refine ge_then ?_
 refine g_ret ?_
 refine ret1c (.inl rfl) rfl rfl rfl rfl _ (⟨by first | rfl | (show _ = Value.agg (askN B v (y0 :: r)).cells.toArray; simp only [askN]; first | rw [if_pos hy]; rfl | rw [if_neg hy]; rfl) | (show _ = Value.agg (goneN B (y0 :: r)).cells.toArray; simp only [goneN]; first | rw [if_pos hy]; rfl | rw [if_neg hy]; rfl), rfl⟩) (To.sat (by repeat (first | exact .nil | exact .done .refl | (apply To.cons; · (repeat (first | exact .head | apply Sel.tail))) | exact .done (by repeat (first | exact .refl | apply Drop.skip)))))

set_option maxRecDepth 8000 in
set_option maxHeartbeats 1000000 in
theorem rnextP_10 (B : PB) (hB : 1 ≤ B.nm ∧ B.nm ≤ 64 ∧ 1 ≤ B.nn ∧ B.nn ≤ 64 ∧ B.b ≤ 60000) (v : Int) (hv : 0 ≤ v ∧ v ≤ 18446744073709551615) (a : Option Addr) (c : Nat) (l : List Int) (hl : LI l) (hm : l.length ≤ 80000) (A : Assn) (hr : Rd A a c l) : FnS Tryz.prog 17 [boxV B, opV' 10 v (.slice a l.length c)] [A] (fun u Bs => u = .agg (nextP B 10 v l).cells.toArray ∧ Bs = [A]) := by
 refine fn_body Tryz.func17 rfl rfl rfl ?_
 intro W0 R
 simp only [List.zipIdx_cons, List.zipIdx_nil, List.map_cons, List.map_nil, Nat.zero_add, Nat.reduceAdd, List.cons_append, List.nil_append]
 have hrb : 1 ≤ B.rn false ∧ B.rn false ≤ 64 ∧ B.rb false ≤ 65536 := by simp [PB.rb, PB.rn]; omega
 refine g_seq ?_
 refine g_region ?_
 refine gl_n rfl (o_boxA rfl) ?_
 rintro _ _ ⟨b2, rfl, rfl⟩
 refine gl_n rfl (o_boxA rfl) ?_
 rintro _ _ ⟨b3, rfl, rfl⟩
 refine gl_n rfl (o_alloc) ?_
 rintro _ _ ⟨b4, rfl, rfl⟩
 refine gl_nil ?_
 refine ge_then ?_
 refine g_seq ?_
 refine g_seq ?_
 refine g_region ?_
 first | refine gl_v rfl (o_fldS rfl) ?_ | refine gl_v rfl (o_fld rfl) ?_
 first | refine gl_v rfl (o_load rfl rfl) ?_ | refine gl_v rfl (o_loadS rfl rfl) ?_ | refine gl_v rfl (o_loadC rfl) ?_
 refine gl_nil ?_
 refine ge_then ?_
 refine g_block ?_
 refine g_seq ?_
 refine g_region ?_
 refine gl_v rfl (o_is (c := false) (by first | rfl | exact decide_eq_false (by omega)) (o_eql rfl rfl)) ?_
 refine gl_v rfl (o_assign rfl) ?_
 refine gl_nil ?_
 refine ge_then ?_
 refine g_cond_false rfl ?_
 refine g_seq ?_
 refine g_region ?_
 refine gl_v rfl (o_is (c := false) (by first | rfl | exact decide_eq_false (by omega)) (o_eql rfl rfl)) ?_
 refine gl_v rfl (o_assign rfl) ?_
 refine gl_nil ?_
 refine ge_then ?_
 refine g_cond_false rfl ?_
 refine g_seq ?_
 refine g_region ?_
 refine gl_v rfl (o_is (c := false) (by first | rfl | exact decide_eq_false (by omega)) (o_eql rfl rfl)) ?_
 refine gl_v rfl (o_assign rfl) ?_
 refine gl_nil ?_
 refine ge_then ?_
 refine g_cond_false rfl ?_
 refine g_seq ?_
 refine g_region ?_
 refine gl_v rfl (o_is (c := false) (by first | rfl | exact decide_eq_false (by omega)) (o_eql rfl rfl)) ?_
 refine gl_v rfl (o_assign rfl) ?_
 refine gl_nil ?_
 refine ge_then ?_
 refine g_cond_false rfl ?_
 refine g_seq ?_
 refine g_region ?_
 refine gl_v rfl (o_is (c := false) (by first | rfl | exact decide_eq_false (by omega)) (o_eql rfl rfl)) ?_
 refine gl_v rfl (o_assign rfl) ?_
 refine gl_nil ?_
 refine ge_then ?_
 refine g_cond_false rfl ?_
 refine g_seq ?_
 refine g_region ?_
 refine gl_v rfl (o_is (c := false) (by first | rfl | exact decide_eq_false (by omega)) (o_eql rfl rfl)) ?_
 refine gl_v rfl (o_assign rfl) ?_
 refine gl_nil ?_
 refine ge_then ?_
 refine g_cond_false rfl ?_
 refine g_seq ?_
 refine g_region ?_
 refine gl_v rfl (o_is (c := false) (by first | rfl | exact decide_eq_false (by omega)) (o_eql rfl rfl)) ?_
 refine gl_v rfl (o_assign rfl) ?_
 refine gl_nil ?_
 refine ge_then ?_
 refine g_cond_false rfl ?_
 refine g_seq ?_
 refine g_region ?_
 refine gl_v rfl (o_is (c := false) (by first | rfl | exact decide_eq_false (by omega)) (o_eql rfl rfl)) ?_
 refine gl_v rfl (o_assign rfl) ?_
 refine gl_nil ?_
 refine ge_then ?_
 refine g_cond_false rfl ?_
 refine g_skip ?_
 refine ge_block ?_
 refine ge_then ?_
 refine g_seq ?_
 refine g_region ?_
 first | refine gl_v rfl (o_loadSA rfl rfl rfl) ?_ | refine gl_v rfl (o_loadA rfl rfl rfl) ?_
 refine gl_c rfl (o_call rfl (mailR_spec B hB) (by repeat (first | exact .nil | (apply Part.cons; · (repeat (first | exact .head | apply Sel.tail)))))) ?_
 rintro _ R ⟨_, ⟨rfl, rfl⟩, rfl⟩
 try simp only [List.cons_append, List.nil_append]
 refine gl_n rfl (o_alloc) ?_
 rintro _ _ ⟨b6, rfl, rfl⟩
 refine gl_v rfl (o_assign rfl) ?_
 first | refine gl_u (o_storeSA rfl rfl rfl rfl (by simp; omega) (by simp)) ?_ | refine gl_u (o_storeA rfl rfl rfl rfl rfl) ?_
 refine gl_nil ?_
 refine ge_then ?_
 refine g_seq ?_
 refine g_seq ?_
 refine g_region ?_
 first | refine gl_v rfl (o_fldS rfl) ?_ | refine gl_v rfl (o_fld rfl) ?_
 first | refine gl_v rfl (o_load rfl rfl) ?_ | refine gl_v rfl (o_loadS rfl rfl) ?_ | refine gl_v rfl (o_loadC rfl) ?_
 refine gl_nil ?_
 refine ge_then ?_
 refine g_block ?_
 refine g_seq ?_
 refine g_region ?_
 refine gl_v rfl (o_is (c := false) (by first | rfl | exact decide_eq_false (by omega)) (o_eql rfl rfl)) ?_
 refine gl_v rfl (o_assign rfl) ?_
 refine gl_nil ?_
 refine ge_then ?_
 refine g_cond_false rfl ?_
 refine g_seq ?_
 refine g_region ?_
 refine gl_v rfl (o_is (c := false) (by first | rfl | exact decide_eq_false (by omega)) (o_eql rfl rfl)) ?_
 refine gl_v rfl (o_assign rfl) ?_
 refine gl_nil ?_
 refine ge_then ?_
 refine g_cond_false rfl ?_
 refine g_seq ?_
 refine g_region ?_
 refine gl_v rfl (o_is (c := true) (by first | rfl | exact decide_eq_true (by omega)) (o_eql rfl rfl)) ?_
 refine gl_v rfl (o_assign rfl) ?_
 refine gl_nil ?_
 refine ge_then ?_
 refine g_cond_true rfl ?_
 refine g_region ?_
 refine gl_v rfl (o_assign rfl) ?_
 refine gl_nil ?_
 refine ge_block ?_
 refine ge_then ?_
 refine g_seq ?_
 refine g_region ?_
 first | refine gl_v rfl (o_loadSA rfl rfl rfl) ?_ | refine gl_v rfl (o_loadA rfl rfl rfl) ?_
 refine gl_v rfl (o_move rfl) ?_
 first | refine gl_v rfl (o_fldS rfl) ?_ | refine gl_v rfl (o_fld rfl) ?_
 first | refine gl_v rfl (o_load rfl rfl) ?_ | refine gl_v rfl (o_loadS rfl rfl) ?_ | refine gl_v rfl (o_loadC rfl) ?_
 refine gl_c rfl (o_call rfl (rpart_spec (B.rb false) (B.rn false) hrb.1 hrb.2.1 hrb.2.2 3 0 (by decide) a c l hl (by omega) A hr) (by repeat (first | exact .nil | (apply Part.cons; · (repeat (first | exact .head | apply Sel.tail)))))) ?_
 rintro _ R ⟨_, ⟨rfl, rfl⟩, rfl⟩
 try simp only [List.cons_append, List.nil_append]
 refine gl_v rfl (o_move rfl) ?_
 refine gl_v rfl (o_extract rfl rfl) ?_
 refine gl_v rfl (o_extract rfl rfl) ?_
 refine gl_n rfl (o_alloc) ?_
 rintro _ _ ⟨b7, rfl, rfl⟩
 first | refine gl_u (o_storeSA rfl rfl rfl rfl (by simp; omega) (by simp)) ?_ | refine gl_u (o_storeA rfl rfl rfl rfl rfl) ?_
 refine gl_v rfl (o_assign rfl) ?_
 refine gl_nil ?_
 refine ge_then ?_
 refine g_seq ?_
 refine g_region ?_
 first | refine gl_v rfl (o_loadSA rfl rfl rfl) ?_ | refine gl_v rfl (o_loadA rfl rfl rfl) ?_
 first | refine gl_u (o_storeSA rfl rfl rfl rfl (by simp; omega) (by simp)) ?_ | refine gl_u (o_storeA rfl rfl rfl rfl rfl) ?_
 refine gl_nil ?_
 refine ge_then ?_
 refine g_ret ?_
 refine ret1c (.inl rfl) rfl rfl rfl rfl _ (⟨by first | rfl | (show _ = Value.agg (askN B v (y0 :: r)).cells.toArray; simp only [askN]; first | rw [if_pos hy]; rfl | rw [if_neg hy]; rfl) | (show _ = Value.agg (goneN B (y0 :: r)).cells.toArray; simp only [goneN]; first | rw [if_pos hy]; rfl | rw [if_neg hy]; rfl), rfl⟩) (To.sat (by repeat (first | exact .nil | exact .done .refl | (apply To.cons; · (repeat (first | exact .head | apply Sel.tail))) | exact .done (by repeat (first | exact .refl | apply Drop.skip)))))

set_option maxRecDepth 8000 in
set_option maxHeartbeats 1000000 in
theorem rnextP_11 (B : PB) (hB : 1 ≤ B.nm ∧ B.nm ≤ 64 ∧ 1 ≤ B.nn ∧ B.nn ≤ 64 ∧ B.b ≤ 60000) (v : Int) (hv : 0 ≤ v ∧ v ≤ 18446744073709551615) (a : Option Addr) (c : Nat) (l : List Int) (hl : LI l) (hm : l.length ≤ 80000) (A : Assn) (hr : Rd A a c l) : FnS Tryz.prog 17 [boxV B, opV' 11 v (.slice a l.length c)] [A] (fun u Bs => u = .agg (nextP B 11 v l).cells.toArray ∧ Bs = [A]) := by
 refine fn_body Tryz.func17 rfl rfl rfl ?_
 intro W0 R
 simp only [List.zipIdx_cons, List.zipIdx_nil, List.map_cons, List.map_nil, Nat.zero_add, Nat.reduceAdd, List.cons_append, List.nil_append]
 have hrb : 1 ≤ B.rn false ∧ B.rn false ≤ 64 ∧ B.rb false ≤ 65536 := by simp [PB.rb, PB.rn]; omega
 refine g_seq ?_
 refine g_region ?_
 refine gl_n rfl (o_boxA rfl) ?_
 rintro _ _ ⟨b2, rfl, rfl⟩
 refine gl_n rfl (o_boxA rfl) ?_
 rintro _ _ ⟨b3, rfl, rfl⟩
 refine gl_n rfl (o_alloc) ?_
 rintro _ _ ⟨b4, rfl, rfl⟩
 refine gl_nil ?_
 refine ge_then ?_
 refine g_seq ?_
 refine g_seq ?_
 refine g_region ?_
 first | refine gl_v rfl (o_fldS rfl) ?_ | refine gl_v rfl (o_fld rfl) ?_
 first | refine gl_v rfl (o_load rfl rfl) ?_ | refine gl_v rfl (o_loadS rfl rfl) ?_ | refine gl_v rfl (o_loadC rfl) ?_
 refine gl_nil ?_
 refine ge_then ?_
 refine g_block ?_
 refine g_seq ?_
 refine g_region ?_
 refine gl_v rfl (o_is (c := false) (by first | rfl | exact decide_eq_false (by omega)) (o_eql rfl rfl)) ?_
 refine gl_v rfl (o_assign rfl) ?_
 refine gl_nil ?_
 refine ge_then ?_
 refine g_cond_false rfl ?_
 refine g_seq ?_
 refine g_region ?_
 refine gl_v rfl (o_is (c := false) (by first | rfl | exact decide_eq_false (by omega)) (o_eql rfl rfl)) ?_
 refine gl_v rfl (o_assign rfl) ?_
 refine gl_nil ?_
 refine ge_then ?_
 refine g_cond_false rfl ?_
 refine g_seq ?_
 refine g_region ?_
 refine gl_v rfl (o_is (c := false) (by first | rfl | exact decide_eq_false (by omega)) (o_eql rfl rfl)) ?_
 refine gl_v rfl (o_assign rfl) ?_
 refine gl_nil ?_
 refine ge_then ?_
 refine g_cond_false rfl ?_
 refine g_seq ?_
 refine g_region ?_
 refine gl_v rfl (o_is (c := false) (by first | rfl | exact decide_eq_false (by omega)) (o_eql rfl rfl)) ?_
 refine gl_v rfl (o_assign rfl) ?_
 refine gl_nil ?_
 refine ge_then ?_
 refine g_cond_false rfl ?_
 refine g_seq ?_
 refine g_region ?_
 refine gl_v rfl (o_is (c := false) (by first | rfl | exact decide_eq_false (by omega)) (o_eql rfl rfl)) ?_
 refine gl_v rfl (o_assign rfl) ?_
 refine gl_nil ?_
 refine ge_then ?_
 refine g_cond_false rfl ?_
 refine g_seq ?_
 refine g_region ?_
 refine gl_v rfl (o_is (c := true) (by first | rfl | exact decide_eq_true (by omega)) (o_eql rfl rfl)) ?_
 refine gl_v rfl (o_assign rfl) ?_
 refine gl_nil ?_
 refine ge_then ?_
 refine g_cond_true rfl ?_
 refine g_seq ?_
 refine g_region ?_
 first | refine gl_v rfl (o_loadSA rfl rfl rfl) ?_ | refine gl_v rfl (o_loadA rfl rfl rfl) ?_
 first | refine gl_v rfl (o_fldS rfl) ?_ | refine gl_v rfl (o_fld rfl) ?_
 first | refine gl_v rfl (o_load rfl rfl) ?_ | refine gl_v rfl (o_loadS rfl rfl) ?_ | refine gl_v rfl (o_loadC rfl) ?_
 refine gl_c rfl (o_call rfl (store_spec B hB 4 a c l hl (by omega) A hr) (by repeat (first | exact .nil | (apply Part.cons; · (repeat (first | exact .head | apply Sel.tail)))))) ?_
 rintro _ R ⟨_, ⟨rfl, rfl⟩, rfl⟩
 try simp only [List.cons_append, List.nil_append]
 first | refine gl_u (o_storeSA rfl rfl rfl rfl (by simp; omega) (by simp)) ?_ | refine gl_u (o_storeA rfl rfl rfl rfl rfl) ?_
 refine gl_nil ?_
 refine ge_then ?_
 refine g_ret ?_
 refine ge_block_ret ?_
 refine ge_then_ret ?_
 refine ret1c (.inl rfl) rfl rfl rfl rfl _ (⟨by first | rfl | (show _ = Value.agg (askN B v (y0 :: r)).cells.toArray; simp only [askN]; first | rw [if_pos hy]; rfl | rw [if_neg hy]; rfl) | (show _ = Value.agg (goneN B (y0 :: r)).cells.toArray; simp only [goneN]; first | rw [if_pos hy]; rfl | rw [if_neg hy]; rfl), rfl⟩) (To.sat (by repeat (first | exact .nil | exact .done .refl | (apply To.cons; · (repeat (first | exact .head | apply Sel.tail))) | exact .done (by repeat (first | exact .refl | apply Drop.skip)))))

set_option maxRecDepth 8000 in
set_option maxHeartbeats 1000000 in
theorem rnextP_12 (B : PB) (hB : 1 ≤ B.nm ∧ B.nm ≤ 64 ∧ 1 ≤ B.nn ∧ B.nn ≤ 64 ∧ B.b ≤ 60000) (v : Int) (hv : 0 ≤ v ∧ v ≤ 18446744073709551615) (a : Option Addr) (c : Nat) (l : List Int) (hl : LI l) (hm : l.length ≤ 80000) (A : Assn) (hr : Rd A a c l) : FnS Tryz.prog 17 [boxV B, opV' 12 v (.slice a l.length c)] [A] (fun u Bs => u = .agg (nextP B 12 v l).cells.toArray ∧ Bs = [A]) := by
 refine fn_body Tryz.func17 rfl rfl rfl ?_
 intro W0 R
 simp only [List.zipIdx_cons, List.zipIdx_nil, List.map_cons, List.map_nil, Nat.zero_add, Nat.reduceAdd, List.cons_append, List.nil_append]
 have hrb : 1 ≤ B.rn false ∧ B.rn false ≤ 64 ∧ B.rb false ≤ 65536 := by simp [PB.rb, PB.rn]; omega
 refine g_seq ?_
 refine g_region ?_
 refine gl_n rfl (o_boxA rfl) ?_
 rintro _ _ ⟨b2, rfl, rfl⟩
 refine gl_n rfl (o_boxA rfl) ?_
 rintro _ _ ⟨b3, rfl, rfl⟩
 refine gl_n rfl (o_alloc) ?_
 rintro _ _ ⟨b4, rfl, rfl⟩
 refine gl_nil ?_
 refine ge_then ?_
 refine g_seq ?_
 refine g_seq ?_
 refine g_region ?_
 first | refine gl_v rfl (o_fldS rfl) ?_ | refine gl_v rfl (o_fld rfl) ?_
 first | refine gl_v rfl (o_load rfl rfl) ?_ | refine gl_v rfl (o_loadS rfl rfl) ?_ | refine gl_v rfl (o_loadC rfl) ?_
 refine gl_nil ?_
 refine ge_then ?_
 refine g_block ?_
 refine g_seq ?_
 refine g_region ?_
 refine gl_v rfl (o_is (c := false) (by first | rfl | exact decide_eq_false (by omega)) (o_eql rfl rfl)) ?_
 refine gl_v rfl (o_assign rfl) ?_
 refine gl_nil ?_
 refine ge_then ?_
 refine g_cond_false rfl ?_
 refine g_seq ?_
 refine g_region ?_
 refine gl_v rfl (o_is (c := false) (by first | rfl | exact decide_eq_false (by omega)) (o_eql rfl rfl)) ?_
 refine gl_v rfl (o_assign rfl) ?_
 refine gl_nil ?_
 refine ge_then ?_
 refine g_cond_false rfl ?_
 refine g_seq ?_
 refine g_region ?_
 refine gl_v rfl (o_is (c := false) (by first | rfl | exact decide_eq_false (by omega)) (o_eql rfl rfl)) ?_
 refine gl_v rfl (o_assign rfl) ?_
 refine gl_nil ?_
 refine ge_then ?_
 refine g_cond_false rfl ?_
 refine g_seq ?_
 refine g_region ?_
 refine gl_v rfl (o_is (c := false) (by first | rfl | exact decide_eq_false (by omega)) (o_eql rfl rfl)) ?_
 refine gl_v rfl (o_assign rfl) ?_
 refine gl_nil ?_
 refine ge_then ?_
 refine g_cond_false rfl ?_
 refine g_seq ?_
 refine g_region ?_
 refine gl_v rfl (o_is (c := false) (by first | rfl | exact decide_eq_false (by omega)) (o_eql rfl rfl)) ?_
 refine gl_v rfl (o_assign rfl) ?_
 refine gl_nil ?_
 refine ge_then ?_
 refine g_cond_false rfl ?_
 refine g_seq ?_
 refine g_region ?_
 refine gl_v rfl (o_is (c := false) (by first | rfl | exact decide_eq_false (by omega)) (o_eql rfl rfl)) ?_
 refine gl_v rfl (o_assign rfl) ?_
 refine gl_nil ?_
 refine ge_then ?_
 refine g_cond_false rfl ?_
 refine g_seq ?_
 refine g_region ?_
 refine gl_v rfl (o_is (c := true) (by first | rfl | exact decide_eq_true (by omega)) (o_eql rfl rfl)) ?_
 refine gl_v rfl (o_assign rfl) ?_
 refine gl_nil ?_
 refine ge_then ?_
 refine g_cond_true rfl ?_
 refine g_seq ?_
 refine g_seq ?_
 refine g_region ?_
 first | refine gl_v rfl (o_fldS rfl) ?_ | refine gl_v rfl (o_fld rfl) ?_
 first | refine gl_v rfl (o_load rfl rfl) ?_ | refine gl_v rfl (o_loadS rfl rfl) ?_ | refine gl_v rfl (o_loadC rfl) ?_
 refine gl_v rfl (o_lenL rfl) ?_
 refine gl_v rfl (o_eql rfl rfl) ?_
 refine gl_nil ?_
 refine ge_then ?_
 refine g_cond rfl (fun hc1 => ?_) (fun hc1 => ?_)
 ·
  first | replace hc1 := of_decide_eq_true hc1 | replace hc1 := lt_f hc1 | replace hc1 := le_f hc1 | replace hc1 := dec_f hc1 | replace hc1 := nlt_t hc1 | replace hc1 := nle_t hc1 | replace hc1 := ndec_t hc1 | replace hc1 := ndec_f hc1 | replace hc1 := nn_t hc1 | replace hc1 := nn_f hc1 | skip
  obtain rfl : l = [] := List.eq_nil_of_length_eq_zero (by have h9 := hc1; omega)
  refine g_seq ?_
  refine g_region ?_
  first | refine gl_v rfl (o_fldS rfl) ?_ | refine gl_v rfl (o_fld rfl) ?_
  first | refine gl_v rfl (o_load rfl rfl) ?_ | refine gl_v rfl (o_loadS rfl rfl) ?_ | refine gl_v rfl (o_loadC rfl) ?_
  refine gl_v rfl (o_build rfl rfl) ?_
  first | refine gl_u (o_storeSA rfl rfl rfl rfl (by simp; omega) (by simp)) ?_ | refine gl_u (o_storeA rfl rfl rfl rfl rfl) ?_
  refine gl_nil ?_
  refine ge_then ?_
  refine g_ret ?_
  refine ge_then_ret ?_
  refine ge_block_ret ?_
  refine ge_then_ret ?_
  refine ret1c (.inl rfl) rfl rfl rfl rfl _ (⟨by first | rfl | (show _ = Value.agg (askN B v (y0 :: r)).cells.toArray; simp only [askN]; first | rw [if_pos hy]; rfl | rw [if_neg hy]; rfl) | (show _ = Value.agg (goneN B (y0 :: r)).cells.toArray; simp only [goneN]; first | rw [if_pos hy]; rfl | rw [if_neg hy]; rfl), rfl⟩) (To.sat (by repeat (first | exact .nil | exact .done .refl | (apply To.cons; · (repeat (first | exact .head | apply Sel.tail))) | exact .done (by repeat (first | exact .refl | apply Drop.skip)))))
 ·
  first | replace hc1 := of_decide_eq_true hc1 | replace hc1 := lt_f hc1 | replace hc1 := le_f hc1 | replace hc1 := dec_f hc1 | replace hc1 := nlt_t hc1 | replace hc1 := nle_t hc1 | replace hc1 := ndec_t hc1 | replace hc1 := ndec_f hc1 | replace hc1 := nn_t hc1 | replace hc1 := nn_f hc1 | skip
  obtain ⟨y0, r, rfl⟩ : ∃ p q, l = p :: q := by cases l with | nil => simp at * | cons p q => exact ⟨p, q, rfl⟩
  refine g_skip ?_
  refine ge_then ?_
  refine g_seq ?_
  refine g_seq ?_
  haveI := hr.inst
  refine g_region ?_
  first | refine gl_v rfl (o_fldS rfl) ?_ | refine gl_v rfl (o_fld rfl) ?_
  first | refine gl_v rfl (o_load rfl rfl) ?_ | refine gl_v rfl (o_loadS rfl rfl) ?_ | refine gl_v rfl (o_loadC rfl) ?_
  refine gl_v rfl (o_idxS (j := 0) rfl rfl (by simp)) ?_
  refine gl_v rfl (o_loadS rfl (show (List.map U64 (y0 :: r))[0 * 1]? = some (U64 y0) from rfl)) ?_
  refine gl_v rfl (o_eql rfl rfl) ?_
  refine gl_nil ?_
  refine ge_then ?_
  refine g_cond rfl (fun hc2 => ?_) (fun hc2 => ?_)
  ·
   first | replace hc2 := of_decide_eq_true hc2 | replace hc2 := lt_f hc2 | replace hc2 := le_f hc2 | replace hc2 := dec_f hc2 | replace hc2 := nlt_t hc2 | replace hc2 := nle_t hc2 | replace hc2 := ndec_t hc2 | replace hc2 := ndec_f hc2 | replace hc2 := nn_t hc2 | replace hc2 := nn_f hc2 | skip
   have hy : y0 = 4 := hc2
   refine g_seq ?_
   refine g_region ?_
   refine gl_c rfl (o_call rfl (over_spec 1) (by repeat (first | exact .nil | (apply Part.cons; · (repeat (first | exact .head | apply Sel.tail)))))) ?_
   rintro _ R ⟨_, ⟨rfl, rfl⟩, rfl⟩
   try simp only [List.cons_append, List.nil_append]
   first | refine gl_u (o_storeSA rfl rfl rfl rfl (by simp; omega) (by simp)) ?_ | refine gl_u (o_storeA rfl rfl rfl rfl rfl) ?_
   refine gl_nil ?_
   refine ge_then ?_
   refine g_ret ?_
   refine ge_then_ret ?_
   refine ge_block_ret ?_
   refine ge_then_ret ?_
   refine ret1c (.inl rfl) rfl rfl rfl rfl _ (⟨by first | rfl | (show _ = Value.agg (askN B v (y0 :: r)).cells.toArray; simp only [askN]; first | rw [if_pos hy]; rfl | rw [if_neg hy]; rfl) | (show _ = Value.agg (goneN B (y0 :: r)).cells.toArray; simp only [goneN]; first | rw [if_pos hy]; rfl | rw [if_neg hy]; rfl), rfl⟩) (To.sat (by repeat (first | exact .nil | exact .done .refl | (apply To.cons; · (repeat (first | exact .head | apply Sel.tail))) | exact .done (by repeat (first | exact .refl | apply Drop.skip)))))
  ·
   first | replace hc2 := of_decide_eq_true hc2 | replace hc2 := lt_f hc2 | replace hc2 := le_f hc2 | replace hc2 := dec_f hc2 | replace hc2 := nlt_t hc2 | replace hc2 := nle_t hc2 | replace hc2 := ndec_t hc2 | replace hc2 := ndec_f hc2 | replace hc2 := nn_t hc2 | replace hc2 := nn_f hc2 | skip
   have hy : y0 ≠ 4 := hc2
   refine g_skip ?_
   refine ge_then ?_
   refine g_seq ?_
   refine g_region ?_
   refine gl_c rfl (o_call rfl (over_spec 4) (by repeat (first | exact .nil | (apply Part.cons; · (repeat (first | exact .head | apply Sel.tail)))))) ?_
   rintro _ R ⟨_, ⟨rfl, rfl⟩, rfl⟩
   try simp only [List.cons_append, List.nil_append]
   first | refine gl_u (o_storeSA rfl rfl rfl rfl (by simp; omega) (by simp)) ?_ | refine gl_u (o_storeA rfl rfl rfl rfl rfl) ?_
   refine gl_nil ?_
   refine ge_then ?_
   refine g_ret ?_
   refine ge_block_ret ?_
   refine ge_then_ret ?_
   refine ret1c (.inl rfl) rfl rfl rfl rfl _ (⟨by first | rfl | (show _ = Value.agg (askN B v (y0 :: r)).cells.toArray; simp only [askN]; first | rw [if_pos hy]; rfl | rw [if_neg hy]; rfl) | (show _ = Value.agg (goneN B (y0 :: r)).cells.toArray; simp only [goneN]; first | rw [if_pos hy]; rfl | rw [if_neg hy]; rfl), rfl⟩) (To.sat (by repeat (first | exact .nil | exact .done .refl | (apply To.cons; · (repeat (first | exact .head | apply Sel.tail))) | exact .done (by repeat (first | exact .refl | apply Drop.skip)))))

theorem rnextP_spec (B : PB) (hB : 1 ≤ B.nm ∧ B.nm ≤ 64 ∧ 1 ≤ B.nn ∧ B.nn ≤ 64 ∧ B.b ≤ 60000) (kind v : Int) (hk : 1 ≤ kind ∧ kind ≤ 12) (hv : 0 ≤ v ∧ v ≤ 18446744073709551615) (a : Option Addr) (c : Nat) (l : List Int) (hl : LI l) (hm : l.length ≤ 80000) (A : Assn) (hr : Rd A a c l) : FnS Tryz.prog 17 [boxV B, opV' kind v (.slice a l.length c)] [A] (fun u Bs => u = .agg (nextP B kind v l).cells.toArray ∧ Bs = [A]) := by
  have hc : kind = 1 ∨ kind = 2 ∨ kind = 3 ∨ kind = 4 ∨ kind = 5 ∨ kind = 6 ∨ kind = 7 ∨ kind = 8 ∨ kind = 9 ∨ kind = 10 ∨ kind = 11 ∨ kind = 12 := by omega
  rcases hc with rfl | rfl | rfl | rfl | rfl | rfl | rfl | rfl | rfl | rfl | rfl | rfl
  · exact rnextP_1 B hB v hv a c l hl hm A hr
  · exact rnextP_2 B hB v hv a c l hl hm A hr
  · exact rnextP_3 B hB v hv a c l hl hm A hr
  · exact rnextP_4 B hB v hv a c l hl hm A hr
  · exact rnextP_5 B hB v hv a c l hl hm A hr
  · exact rnextP_6 B hB v hv a c l hl hm A hr
  · exact rnextP_7 B hB v hv a c l hl hm A hr
  · exact rnextP_8 B hB v hv a c l hl hm A hr
  · exact rnextP_9 B hB v hv a c l hl hm A hr
  · exact rnextP_10 B hB v hv a c l hl hm A hr
  · exact rnextP_11 B hB v hv a c l hl hm A hr
  · exact rnextP_12 B hB v hv a c l hl hm A hr
set_option maxRecDepth 8000 in
set_option maxHeartbeats 1000000 in
theorem rstepP_over (p b2 n2 : Nat) (B : PB) (hB : 1 ≤ B.nm ∧ B.nm ≤ 64 ∧ 1 ≤ B.nn ∧ B.nn ≤ 64 ∧ B.b ≤ 60000) (kind v : Int) (hk : 1 ≤ kind ∧ kind ≤ 12) (hv : 0 ≤ v ∧ v ≤ 18446744073709551615) (a : Option Addr) (c : Nat) (l : List Int) (hl : LI l) (hm : l.length ≤ 80000) (A : Assn) (hr : Rd A a c l) (L : List Int) (t : Int) (hov : (nextP B kind v l).over = true) : FnS Tryz.prog 15 [ptr p 0, boxV B, opV' kind v (.slice a l.length c)] [rmemA p L t, A] (fun u Bs => u = opV' kind v (.slice a l.length c) ∧ Bs = [rmemA p L t, A]) := by
 refine fn_body Tryz.func15 rfl rfl rfl ?_
 intro W0 R
 simp only [List.zipIdx_cons, List.zipIdx_nil, List.map_cons, List.map_nil, Nat.zero_add, Nat.reduceAdd, List.cons_append, List.nil_append]
 refine g_seq ?_
 refine g_region ?_
 refine gl_n rfl (o_boxA rfl) ?_
 rintro _ _ ⟨b4, rfl, rfl⟩
 refine gl_n rfl (o_boxA rfl) ?_
 rintro _ _ ⟨b5, rfl, rfl⟩
 refine gl_n rfl (o_alloc) ?_
 rintro _ _ ⟨b6, rfl, rfl⟩
 refine gl_nil ?_
 refine ge_then ?_
 refine g_seq ?_
 refine g_region ?_
 first | refine gl_v rfl (o_loadSA rfl rfl rfl) ?_ | refine gl_v rfl (o_loadA rfl rfl rfl) ?_
 first | refine gl_v rfl (o_loadSA rfl rfl rfl) ?_ | refine gl_v rfl (o_loadA rfl rfl rfl) ?_
 refine gl_c rfl (o_call rfl (rnextP_spec B hB kind v hk hv a c l hl hm A hr) (by repeat (first | exact .nil | (apply Part.cons; · (repeat (first | exact .head | apply Sel.tail)))))) ?_
 rintro _ R ⟨_, ⟨rfl, rfl⟩, rfl⟩
 try simp only [List.cons_append, List.nil_append]
 refine gl_n rfl (o_alloc) ?_
 rintro _ _ ⟨b7, rfl, rfl⟩
 first | refine gl_u (o_storeSA rfl rfl rfl rfl (by simp; omega) (by simp)) ?_ | refine gl_u (o_storeA rfl rfl rfl rfl rfl) ?_
 refine gl_nil ?_
 refine ge_then ?_
 refine g_seq ?_
 refine g_seq ?_
 refine g_region ?_
 first | refine gl_v rfl (o_fldS rfl) ?_ | refine gl_v rfl (o_fld rfl) ?_
 first | refine gl_v rfl (o_load rfl rfl) ?_ | refine gl_v rfl (o_loadS rfl rfl) ?_ | refine gl_v rfl (o_loadC rfl) ?_
 refine gl_nil ?_
 refine ge_then ?_
 refine g_cond_true (by show some (Value.bool (nextP B kind v l).over) = _; rw [hov]) ?_
 refine g_seq ?_
 refine g_region ?_
 first | refine gl_v rfl (o_loadSA rfl rfl rfl) ?_ | refine gl_v rfl (o_loadA rfl rfl rfl) ?_
 first | refine gl_u (o_storeSA rfl rfl rfl rfl (by simp; omega) (by simp)) ?_ | refine gl_u (o_storeA rfl rfl rfl rfl rfl) ?_
 refine gl_nil ?_
 refine ge_then ?_
 refine g_ret ?_
 refine ge_then_ret ?_
 refine ret1c (.inl rfl) rfl rfl rfl rfl _ (⟨rfl, rfl⟩) (To.sat (by repeat (first | exact .nil | exact .done .refl | (apply To.cons; · (repeat (first | exact .head | apply Sel.tail))) | exact .done (by repeat (first | exact .refl | apply Drop.skip)))))

set_option maxRecDepth 8000 in
set_option maxHeartbeats 1000000 in
theorem rstepP_go (p b2 n2 : Nat) (B : PB) (hB : 1 ≤ B.nm ∧ B.nm ≤ 64 ∧ 1 ≤ B.nn ∧ B.nn ≤ 64 ∧ B.b ≤ 60000) (kind v : Int) (hk : 1 ≤ kind ∧ kind ≤ 12) (hv : 0 ≤ v ∧ v ≤ 18446744073709551615) (a : Option Addr) (c : Nat) (l : List Int) (hl : LI l) (hm : l.length ≤ 80000) (A : Assn) (hr : Rd A a c l) (L : List Int) (t : Int) (hov : (nextP B kind v l).over = false) (hw : WOk b2 n2 (nextP B kind v l)) (hL : b2 + 2 + 2 * n2 ≤ L.length) : FnS Tryz.prog 15 [ptr p 0, boxV B, opV' kind v (.slice a l.length c)] [rmemA p L t, A] (fun u Bs => ∃ a' c', u = opV' kind v (.slice a' (l.length + 1) c') ∧ Bs = [rmemA p (accL (nextP B kind v l) L) (tup t), own (.slice a' (l.length + 1) c') 39 1 (l.length + 1) ((l ++ [accX (nextP B kind v l) L]).map U64), A]) := by
 refine fn_body Tryz.func15 rfl rfl rfl ?_
 intro W0 R
 simp only [List.zipIdx_cons, List.zipIdx_nil, List.map_cons, List.map_nil, Nat.zero_add, Nat.reduceAdd, List.cons_append, List.nil_append]
 haveI := hr.inst
 refine g_seq ?_
 refine g_region ?_
 refine gl_n rfl (o_boxA rfl) ?_
 rintro _ _ ⟨b4, rfl, rfl⟩
 refine gl_n rfl (o_boxA rfl) ?_
 rintro _ _ ⟨b5, rfl, rfl⟩
 refine gl_n rfl (o_alloc) ?_
 rintro _ _ ⟨b6, rfl, rfl⟩
 refine gl_nil ?_
 refine ge_then ?_
 refine g_seq ?_
 refine g_region ?_
 first | refine gl_v rfl (o_loadSA rfl rfl rfl) ?_ | refine gl_v rfl (o_loadA rfl rfl rfl) ?_
 first | refine gl_v rfl (o_loadSA rfl rfl rfl) ?_ | refine gl_v rfl (o_loadA rfl rfl rfl) ?_
 refine gl_c rfl (o_call rfl (rnextP_spec B hB kind v hk hv a c l hl hm A hr) (by repeat (first | exact .nil | (apply Part.cons; · (repeat (first | exact .head | apply Sel.tail)))))) ?_
 rintro _ R ⟨_, ⟨rfl, rfl⟩, rfl⟩
 try simp only [List.cons_append, List.nil_append]
 refine gl_n rfl (o_alloc) ?_
 rintro _ _ ⟨b7, rfl, rfl⟩
 first | refine gl_u (o_storeSA rfl rfl rfl rfl (by simp; omega) (by simp)) ?_ | refine gl_u (o_storeA rfl rfl rfl rfl rfl) ?_
 refine gl_nil ?_
 refine ge_then ?_
 refine g_seq ?_
 refine g_seq ?_
 refine g_region ?_
 first | refine gl_v rfl (o_fldS rfl) ?_ | refine gl_v rfl (o_fld rfl) ?_
 first | refine gl_v rfl (o_load rfl rfl) ?_ | refine gl_v rfl (o_loadS rfl rfl) ?_ | refine gl_v rfl (o_loadC rfl) ?_
 refine gl_nil ?_
 refine ge_then ?_
 refine g_cond_false (by show some (Value.bool (nextP B kind v l).over) = _; rw [hov]) ?_
 refine g_skip ?_
 refine ge_then ?_
 refine g_seq ?_
 refine g_region ?_
 refine gl_v rfl (o_assign rfl) ?_
 refine gl_nil ?_
 refine ge_then ?_
 refine g_seq ?_
 refine g_imp (own_nil0 (e := 39) (sz := 1)) ?_
 refine g_region ?_
 refine gl_v rfl (o_move rfl) ?_
 first | refine gl_v rfl (o_fldS rfl) ?_ | refine gl_v rfl (o_fld rfl) ?_
 first | refine gl_v rfl (o_load rfl rfl) ?_ | refine gl_v rfl (o_loadS rfl rfl) ?_ | refine gl_v rfl (o_loadC rfl) ?_
 refine gl_n rfl (o_appendS rfl rfl (by repeat (first | exact .head | apply Sel.tail)) rfl (by simp) (by simp [List.all_map]; intro x _; rfl) (by omega) (by unfold maxLen; omega)) ?_
 rintro _ _ ⟨a18, c18, rfl, rfl⟩
 rw [Nat.zero_add]
 simp only [List.nil_append]
 refine gl_v rfl (o_assign rfl) ?_
 refine gl_nil ?_
 refine ge_then ?_
 refine g_seq ?_
 refine g_region ?_
 refine gl_v rfl (o_move rfl) ?_
 refine gl_v rfl (o_move rfl) ?_
 first | refine gl_v rfl (o_loadSA rfl rfl rfl) ?_ | refine gl_v rfl (o_loadA rfl rfl rfl) ?_
 refine gl_c rfl (o_call rfl (rDo_spec p b2 n2 L t (nextP B kind v l) hw hL) (by repeat (first | exact .nil | (apply Part.cons; · (repeat (first | exact .head | apply Sel.tail)))))) ?_
 rintro _ R ⟨_, ⟨rfl, rfl⟩, rfl⟩
 try simp only [List.cons_append, List.nil_append]
 first | refine gl_n rfl (o_buildS1 rfl rfl rfl) ?_ | refine gl_n rfl (o_buildS1A rfl rfl rfl rfl) ?_ | refine gl_n rfl (o_buildS rfl rfl rfl rfl) ?_
 rintro _ _ ⟨b23, rfl, rfl⟩
 refine gl_n rfl (o_append rfl rfl (by repeat (first | exact .nil | (apply Part.cons; · (repeat (first | exact .head | apply Sel.tail))))) rfl rfl rfl (by omega) (by unfold maxLen; omega)) ?_
 rintro _ _ ⟨a24, c24, rfl, rfl⟩
 rw [show l.map U64 ++ [U64 (accX (nextP B kind v l) L)] = (l ++ [accX (nextP B kind v l) L]).map U64 by simp]
 refine gl_v rfl (o_assign rfl) ?_
 refine gl_nil ?_
 refine ge_then ?_
 refine g_seq ?_
 refine g_region ?_
 first | refine gl_v rfl (o_fldS rfl) ?_ | refine gl_v rfl (o_fld rfl) ?_
 first | refine gl_v rfl (o_load rfl rfl) ?_ | refine gl_v rfl (o_loadS rfl rfl) ?_ | refine gl_v rfl (o_loadC rfl) ?_
 first | refine gl_v rfl (o_fldS rfl) ?_ | refine gl_v rfl (o_fld rfl) ?_
 first | refine gl_v rfl (o_load rfl rfl) ?_ | refine gl_v rfl (o_loadS rfl rfl) ?_ | refine gl_v rfl (o_loadC rfl) ?_
 refine gl_v rfl (o_move rfl) ?_
 refine gl_v rfl (o_build rfl rfl) ?_
 first | refine gl_u (o_storeSA rfl rfl rfl rfl (by simp; omega) (by simp)) ?_ | refine gl_u (o_storeA rfl rfl rfl rfl rfl) ?_
 refine gl_nil ?_
 refine ge_then ?_
 refine g_ret ?_
 refine ret1c (.inl rfl) rfl rfl rfl rfl _ (⟨a24, c24, rfl, rfl⟩) (To.sat (by repeat (first | exact .nil | exact .done .refl | (apply To.cons; · (repeat (first | exact .head | apply Sel.tail))) | exact .done (by repeat (first | exact .refl | apply Drop.skip)))))

end Go.Proofs.YtkpgcdhepfgfaaaGreat.L
