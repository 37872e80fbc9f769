/-
  PostHeld and PostShuts on paper: a box of eight and four, its operations done at once. Own work; no program.
-/
import Derived.Test.YtkpgcdhepfgfaaaPostP
namespace Go.L.Post
open Go.L Go.L.Ring
theorem doP_in {B : PB} : ∀ (k : Nat) {L : List Int} {p : PO}, LI L → POI p → LI (doP B k L p).2.1 ∧ POI (doP B k L p).2.2
  | 0, _, _, hL, hp => ⟨hL, hp⟩
  | k + 1, L, p, hL, hp => by
    unfold doP; split
    · exact ⟨hL, hp⟩
    · exact doP_in k (goP_in hL hp).1 (goP_in hL hp).2
abbrev In64p (x : Int) : Prop := 0 ≤ x ∧ x ≤ 18446744073709551615
theorem LI.cons {x : Int} {L : List Int} (h : In64p x) (t : LI L) : LI (x :: L) := fun y hy => by
  rcases List.mem_cons.1 hy with rfl | h2
  · exact h
  · exact t y h2
theorem LI.nil : LI [] := fun y hy => by cases hy
abbrev HB : PB := ⟨0, 8, 4⟩
def bL (st fl mt mh : Int) (mk mv : Nat → Int) (nt nh : Int) (nk nv : Nat → Int) : List Int :=
  [st, fl, mt, mh, mk 0, mv 0, mk 1, mv 1, mk 2, mv 2, mk 3, mv 3, mk 4, mv 4, mk 5, mv 5, mk 6, mv 6, mk 7, mv 7, nt, nh, nk 0, nv 0, nk 1, nv 1, nk 2, nv 2, nk 3, nv 3]
theorem bL_PI {st fl mt mh : Int} {mk mv : Nat → Int} {nt nh : Int} {nk nv : Nat → Int} : PI HB (bL st fl mt mh mk mv nt nh nk nv) := ⟨by decide, by decide, by decide, by decide, (show 30 ≤ 30 by decide), (show 30 ≤ 65536 by decide)⟩
theorem bL_LI {st fl mt mh : Int} {mk mv : Nat → Int} {nt nh : Int} {nk nv : Nat → Int} (h1 : In64p st) (h2 : In64p fl) (h3 : In64p mt) (h4 : In64p mh) (h5 : ∀ k, In64p (mk k)) (h6 : ∀ k, In64p (mv k)) (h7 : In64p nt) (h8 : In64p nh) (h9 : ∀ k, In64p (nk k)) (h10 : ∀ k, In64p (nv k)) : LI (bL st fl mt mh mk mv nt nh nk nv) := by
  unfold bL
  repeat' (first | exact LI.nil | refine LI.cons ?_ ?_)
  all_goals first | assumption | exact h5 _ | exact h6 _ | exact h9 _ | exact h10 _
def two (a b : Int) : Nat → Int
  | 0 => a
  | 1 => b
  | _ => 0
theorem two_in {a b : Int} (ha : In64p a) (hb : In64p b) : ∀ k, In64p (two a b k)
  | 0 => ha
  | 1 => hb
  | _ + 2 => (by decide : In64p 0)
/-! ### PostHeld -/
def hl (st : Int) (n : Nat) (nt nh k0 k1 v0 v1 : Int) : List Int := bL st 0 n 0 (fun k => if k < n then 1 else 0) (fun k => if k < n then k else 0) nt nh (two k0 k1) (two v0 v1)
theorem hl_LI {st : Int} {n : Nat} {nt nh k0 k1 v0 v1 : Int} (h1 : In64p st) (hn : n ≤ 8) (h2 : In64p nt) (h3 : In64p nh) (h4 : In64p k0) (h5 : In64p k1) (h6 : In64p v0) (h7 : In64p v1) : LI (hl st n nt nh k0 k1 v0 v1) :=
  bL_LI h1 (by decide) (by omega) (by decide) (fun k => by split <;> decide) (fun k => by split <;> omega) h2 h3 (two_in h4 h5) (two_in h6 h7)
theorem hl_0 : List.replicate 30 (0 : Int) = hl 0 0 0 0 0 0 0 0 := rfl
theorem h_settle : doP HB 100 (hl 0 0 0 0 0 0 0 0) ⟨.sto true, 0, 0⟩ = (3, hl 3 0 0 0 0 0 0 0, ⟨.look true true ⟨7, 4, 0, 0, 0⟩, 4, 0⟩) := by kernel_rfl
theorem h_tell {i : Nat} (h : i < 7) : doP HB 100 (hl 3 i 0 0 0 0 0 0) ⟨.put false (ini 0 i), 0, 0⟩ = (6, hl 3 (i + 1) 0 0 0 0 0 0, ⟨.see false, 1, 0⟩) := by
  rcases (show i = 0 ∨ i = 1 ∨ i = 2 ∨ i = 3 ∨ i = 4 ∨ i = 5 ∨ i = 6 by omega) with rfl | rfl | rfl | rfl | rfl | rfl | rfl <;> kernel_rfl
theorem h_push1 {n : Nat} (h : n < 8) (v : Int) : doP HB 100 (hl 3 n 0 0 0 0 0 0) ⟨.put true (ini 0 v), 0, 0⟩ = (7, hl 1 n 1 0 1 0 v 0, ⟨.swp true 3, 7, 0⟩) := by
  rcases (show n = 0 ∨ n = 1 ∨ n = 2 ∨ n = 3 ∨ n = 4 ∨ n = 5 ∨ n = 6 ∨ n = 7 by omega) with rfl | rfl | rfl | rfl | rfl | rfl | rfl | rfl <;> kernel_rfl
theorem h_push2 {n : Nat} (h : n < 8) (v : Int) : doP HB 100 (hl 1 n 1 0 1 0 v 0) ⟨.put true (ini 0 v), 0, 0⟩ = (6, hl 1 n 2 0 1 1 v v, ⟨.see true, 1, 0⟩) := by
  rcases (show n = 0 ∨ n = 1 ∨ n = 2 ∨ n = 3 ∨ n = 4 ∨ n = 5 ∨ n = 6 ∨ n = 7 by omega) with rfl | rfl | rfl | rfl | rfl | rfl | rfl | rfl <;> kernel_rfl
theorem h_begin {n : Nat} (h : n < 8) (v : Int) : doP HB 100 (hl 1 n 2 0 1 1 v v) ⟨.set 2, 0, 0⟩ = (1, hl 2 n 2 0 1 1 v v, ⟨.set 2, 1, 0⟩) := by
  rcases (show n = 0 ∨ n = 1 ∨ n = 2 ∨ n = 3 ∨ n = 4 ∨ n = 5 ∨ n = 6 ∨ n = 7 by omega) with rfl | rfl | rfl | rfl | rfl | rfl | rfl | rfl <;> kernel_rfl
theorem h_note1 {n : Nat} (h : n < 8) (v : Int) : doP HB 100 (hl 2 n 2 0 1 1 v v) ⟨.of true (ini 5 0), 0, 0⟩ = (5, hl 2 n 2 1 2 1 v v, ⟨.of true ⟨9, 1, v, 0, 0⟩, 1, v⟩) := by
  rcases (show n = 0 ∨ n = 1 ∨ n = 2 ∨ n = 3 ∨ n = 4 ∨ n = 5 ∨ n = 6 ∨ n = 7 by omega) with rfl | rfl | rfl | rfl | rfl | rfl | rfl | rfl <;> kernel_rfl
theorem h_late {n : Nat} (h : n < 8) (v : Int) : doP HB 100 (hl 2 n 2 1 2 1 v v) ⟨.sto true, 0, 0⟩ = (4, hl 1 n 2 1 2 1 v v, ⟨.more true, 8, 0⟩) := by
  rcases (show n = 0 ∨ n = 1 ∨ n = 2 ∨ n = 3 ∨ n = 4 ∨ n = 5 ∨ n = 6 ∨ n = 7 by omega) with rfl | rfl | rfl | rfl | rfl | rfl | rfl | rfl <;> kernel_rfl
theorem h_note2 {n : Nat} (h : n < 8) (v : Int) : doP HB 100 (hl 2 n 2 1 2 1 v v) ⟨.of true (ini 5 0), 0, 0⟩ = (5, hl 2 n 2 2 2 2 v v, ⟨.of true ⟨9, 1, v, 0, 1⟩, 1, v⟩) := by
  rcases (show n = 0 ∨ n = 1 ∨ n = 2 ∨ n = 3 ∨ n = 4 ∨ n = 5 ∨ n = 6 ∨ n = 7 by omega) with rfl | rfl | rfl | rfl | rfl | rfl | rfl | rfl <;> kernel_rfl
theorem h_end {n : Nat} (h : n < 8) (v : Int) : ∃ k L' ph, doP HB 100 (hl 2 n 2 2 2 2 v v) ⟨.sto false, 0, 0⟩ = (k, L', ⟨ph, if n = 0 then 4 else 8, 0⟩) := by
  rcases (show n = 0 ∨ n = 1 ∨ n = 2 ∨ n = 3 ∨ n = 4 ∨ n = 5 ∨ n = 6 ∨ n = 7 by omega) with rfl | rfl | rfl | rfl | rfl | rfl | rfl | rfl
  · exact ⟨5, hl 0 0 2 2 2 2 v v, .look false false ⟨7, 4, 0, 0, 0⟩, by kernel_rfl⟩
  · exact ⟨6, hl 1 1 2 2 2 2 v v, .more false, by kernel_rfl⟩
  · exact ⟨6, hl 1 2 2 2 2 2 v v, .more false, by kernel_rfl⟩
  · exact ⟨6, hl 1 3 2 2 2 2 v v, .more false, by kernel_rfl⟩
  · exact ⟨6, hl 1 4 2 2 2 2 v v, .more false, by kernel_rfl⟩
  · exact ⟨6, hl 1 5 2 2 2 2 v v, .more false, by kernel_rfl⟩
  · exact ⟨6, hl 1 6 2 2 2 2 v v, .more false, by kernel_rfl⟩
  · exact ⟨6, hl 1 7 2 2 2 2 v v, .more false, by kernel_rfl⟩
/-! ### PostShuts -/
def sl (st : Int) (v : Nat → Int) (i j : Nat) (c nt k0 v0 : Int) : List Int := bL st 0 (i + c) j (fun k => if k < j then 2 else if k < i then 1 else 0) (fun k => if k < i then v k else 0) nt 0 (two k0 0) (two v0 0)
theorem sl_LI {st : Int} {v : Nat → Int} {i j : Nat} {c nt k0 v0 : Int} (h1 : In64p st) (hi : i ≤ 8) (hj : j ≤ 8) (hv : ∀ k, k < i → In64p (v k)) (hc : 0 ≤ c ∧ c ≤ top) (h2 : In64p nt) (h3 : In64p k0) (h4 : In64p v0) : LI (sl st v i j c nt k0 v0) :=
  have ht : top = 9223372036854775808 := rfl
  bL_LI h1 (by decide) (by omega) (by omega) (fun k => by (repeat' split) <;> decide) (fun k => by split; exact hv k (by assumption); decide) h2 (by decide) (two_in h3 (by decide)) (two_in h4 (by decide))
theorem sl_0 (v : Nat → Int) : List.replicate 30 (0 : Int) = sl 0 v 0 0 0 0 0 0 := rfl
theorem s_tell (v : Nat → Int) {i : Nat} (h : i < 8) : ∃ k po, doP HB 100 (sl (if i = 0 then 0 else 1) v i 0 0 0 0 0) ⟨.put false (ini 0 (v i)), 0, 0⟩ = (k, sl (if i + 1 = 0 then 0 else 1) v (i + 1) 0 0 0 0 0, po) := by
  rcases (show i = 0 ∨ i = 1 ∨ i = 2 ∨ i = 3 ∨ i = 4 ∨ i = 5 ∨ i = 6 ∨ i = 7 by omega) with rfl | rfl | rfl | rfl | rfl | rfl | rfl | rfl
  · exact ⟨7, ⟨.swp false 0, 7, 0⟩, by kernel_rfl⟩
  all_goals exact ⟨6, ⟨.see false, 1, 0⟩, by kernel_rfl⟩
theorem s_begin (v : Nat → Int) {n : Nat} (h : n ≤ 8) : doP HB 100 (sl (if n = 0 then 0 else 1) v n 0 0 0 0 0) ⟨.set 2, 0, 0⟩ = (1, sl 2 v n 0 0 0 0 0, ⟨.set 2, 1, 0⟩) := by
  rcases (show n = 0 ∨ n = 1 ∨ n = 2 ∨ n = 3 ∨ n = 4 ∨ n = 5 ∨ n = 6 ∨ n = 7 ∨ n = 8 by omega) with rfl | rfl | rfl | rfl | rfl | rfl | rfl | rfl | rfl <;> kernel_rfl
theorem s_gone (v : Nat → Int) {n : Nat} (h : n ≤ 8) : doP HB 100 (sl 2 v n 0 0 0 0 0) ⟨.gone, 0, 0⟩ = (1, sl 2 v n 0 0 0 0 0, ⟨.gone, 4, 0⟩) := by
  rcases (show n = 0 ∨ n = 1 ∨ n = 2 ∨ n = 3 ∨ n = 4 ∨ n = 5 ∨ n = 6 ∨ n = 7 ∨ n = 8 by omega) with rfl | rfl | rfl | rfl | rfl | rfl | rfl | rfl | rfl <;> kernel_rfl
theorem s_close (v : Nat → Int) {n : Nat} (h : n ≤ 8) : doP HB 100 (sl 2 v n 0 0 0 0 0) ⟨.of false (ini 14 0), 0, 0⟩ = (2, sl 2 v n 0 top 0 0 0, ⟨.of false ⟨14, 1, 0, 0, 0⟩, 1, 0⟩) := by
  rcases (show n = 0 ∨ n = 1 ∨ n = 2 ∨ n = 3 ∨ n = 4 ∨ n = 5 ∨ n = 6 ∨ n = 7 ∨ n = 8 by omega) with rfl | rfl | rfl | rfl | rfl | rfl | rfl | rfl | rfl <;> kernel_rfl
theorem s_late (v : Nat → Int) {n : Nat} (h : n ≤ 8) (x : Int) : doP HB 100 (sl 2 v n 0 top 0 0 0) ⟨.put false (ini 0 x), 0, 0⟩ = (1, sl 2 v n 0 top 0 0 0, ⟨.put false ⟨1, 3, x, n + top, 0⟩, 3, 0⟩) := by
  rcases (show n = 0 ∨ n = 1 ∨ n = 2 ∨ n = 3 ∨ n = 4 ∨ n = 5 ∨ n = 6 ∨ n = 7 ∨ n = 8 by omega) with rfl | rfl | rfl | rfl | rfl | rfl | rfl | rfl | rfl <;> kernel_rfl
theorem s_drain (v : Nat → Int) {n j : Nat} (h : n ≤ 8) (hj : j < n) : doP HB 100 (sl 2 v n j top 0 0 0) ⟨.of false (ini 10 0), 0, 0⟩ = (6, sl 2 v n (j + 1) top 0 0 0, ⟨.of false ⟨9, 1, v j, 0, j⟩, 1, v j⟩) := by
  rcases (show n = 0 ∨ n = 1 ∨ n = 2 ∨ n = 3 ∨ n = 4 ∨ n = 5 ∨ n = 6 ∨ n = 7 ∨ n = 8 by omega) with rfl | rfl | rfl | rfl | rfl | rfl | rfl | rfl | rfl <;>
  rcases (show j = 0 ∨ j = 1 ∨ j = 2 ∨ j = 3 ∨ j = 4 ∨ j = 5 ∨ j = 6 ∨ j = 7 by omega) with rfl | rfl | rfl | rfl | rfl | rfl | rfl | rfl <;> first | (exfalso; omega) | kernel_rfl
theorem s_end (v : Nat → Int) {n : Nat} (h : n ≤ 8) : doP HB 100 (sl 2 v n n top 0 0 0) ⟨.of false (ini 10 0), 0, 0⟩ = (2, sl 2 v n n top 0 0 0, ⟨.of false ⟨6, 5, n + top, 0, n⟩, 5, 0⟩) := by
  rcases (show n = 0 ∨ n = 1 ∨ n = 2 ∨ n = 3 ∨ n = 4 ∨ n = 5 ∨ n = 6 ∨ n = 7 ∨ n = 8 by omega) with rfl | rfl | rfl | rfl | rfl | rfl | rfl | rfl | rfl <;> kernel_rfl
theorem s_shut (v : Nat → Int) {n : Nat} (h : n ≤ 8) : doP HB 100 (sl 2 v n n top 0 0 0) ⟨.set 4, 0, 0⟩ = (1, sl 4 v n n top 0 0 0, ⟨.set 4, 1, 0⟩) := by
  rcases (show n = 0 ∨ n = 1 ∨ n = 2 ∨ n = 3 ∨ n = 4 ∨ n = 5 ∨ n = 6 ∨ n = 7 ∨ n = 8 by omega) with rfl | rfl | rfl | rfl | rfl | rfl | rfl | rfl | rfl <;> kernel_rfl
theorem s_gone2 (v : Nat → Int) {n : Nat} (h : n ≤ 8) : doP HB 100 (sl 4 v n n top 0 0 0) ⟨.gone, 0, 0⟩ = (1, sl 4 v n n top 0 0 0, ⟨.gone, 1, 0⟩) := by
  rcases (show n = 0 ∨ n = 1 ∨ n = 2 ∨ n = 3 ∨ n = 4 ∨ n = 5 ∨ n = 6 ∨ n = 7 ∨ n = 8 by omega) with rfl | rfl | rfl | rfl | rfl | rfl | rfl | rfl | rfl <;> kernel_rfl
theorem s_push (v : Nat → Int) {n : Nat} (h : n ≤ 8) (x : Int) : doP HB 100 (sl 4 v n n top 0 0 0) ⟨.put true (ini 0 x), 0, 0⟩ = (6, sl 4 v n n top 1 1 x, ⟨.see true, 1, 0⟩) := by
  rcases (show n = 0 ∨ n = 1 ∨ n = 2 ∨ n = 3 ∨ n = 4 ∨ n = 5 ∨ n = 6 ∨ n = 7 ∨ n = 8 by omega) with rfl | rfl | rfl | rfl | rfl | rfl | rfl | rfl | rfl <;> kernel_rfl
theorem s_late2 (v : Nat → Int) {n : Nat} (h : n ≤ 8) (x : Int) : doP HB 100 (sl 4 v n n top 1 1 x) ⟨.put false (ini 0 x), 0, 0⟩ = (1, sl 4 v n n top 1 1 x, ⟨.put false ⟨1, 3, x, n + top, 0⟩, 3, 0⟩) := by
  rcases (show n = 0 ∨ n = 1 ∨ n = 2 ∨ n = 3 ∨ n = 4 ∨ n = 5 ∨ n = 6 ∨ n = 7 ∨ n = 8 by omega) with rfl | rfl | rfl | rfl | rfl | rfl | rfl | rfl | rfl <;> kernel_rfl
end Go.L.Post
