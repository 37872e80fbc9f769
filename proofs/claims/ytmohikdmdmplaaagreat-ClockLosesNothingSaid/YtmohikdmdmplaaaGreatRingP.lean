/-
  The ring on paper: its operations, step by step. Own work; no program.
-/
import Derived.Test.YtmohikdmdmplaaaGreatMore
set_option linter.unusedSimpArgs false
set_option linter.unusedVariables false
set_option linter.unusedSectionVars false
namespace Go.L.Ring
open Go.L
abbrev uw (x : Int) : Int := IntKind.u64.wrap x
/-- the cell of a ticket's turn -/
def tn (b n : Nat) (t : Int) : Nat := b + 2 + 2 * (t % (n : Int)).toNat
def wt (n : Nat) (t : Int) : Int := uw (t / n * 2)
theorem quo_wr {t : Int} {n : Nat} (ht : 0 ≤ t) (h2 : t ≤ 18446744073709551615) (hn : 1 ≤ n) : IntKind.u64.wrap (t.tdiv n) = t / n := by
  rw [Int.tdiv_eq_ediv_of_nonneg ht]
  have h0 : 0 ≤ t / n := Int.ediv_nonneg ht (by omega)
  have h1 : t / n ≤ t := Int.ediv_le_self _ ht
  exact wr_u64 (by omega)
/-- an operation: its next step, what it has come to -/
structure RO where
  pc : Nat
  out : Int
  val : Int
  tick : Int
  en : Int
  deriving DecidableEq
structure OI (o : RO) : Prop where
  pc : o.pc ≤ 15
  v0 : 0 ≤ o.val
  v1 : o.val ≤ 18446744073709551615
  t0 : 0 ≤ o.tick
  t1 : o.tick ≤ 18446744073709551615
  e0 : 0 ≤ o.en
  e1 : o.en ≤ 18446744073709551615
def RO.over (o : RO) : Bool := !decide (o.out = 0)
def RO.value (o : RO) : Int := if o.out = 1 then o.val else 0
def RO.ticket (o : RO) : Int := if o.out = 1 then o.tick else 0
abbrev top : Int := 9223372036854775808
def putTailO (b : Nat) (L : List Int) (o : RO) : RO := { o with pc := 1, tick := L.getD b 0, out := if top ≤ L.getD b 0 then 3 else o.out }
def putTurnO (b n : Nat) (L : List Int) (o : RO) : RO :=
  if wt n o.tick < L.getD (tn b n o.tick) 0 then { o with pc := 0 } else if L.getD (tn b n o.tick) 0 < wt n o.tick then { o with out := 2 } else { o with pc := 2 }
def putSwapO (b : Nat) (L : List Int) (o : RO) : RO := { o with pc := if L.getD b 0 = o.tick then 3 else 0 }
def putSwapL (b : Nat) (L : List Int) (o : RO) : List Int := if L.getD b 0 = o.tick then L.set b (uw (o.tick + 1)) else L
def putValueO (o : RO) : RO := { o with pc := 4 }
def putValueL (b n : Nat) (L : List Int) (o : RO) : List Int := L.set (tn b n o.tick + 1) o.val
def putDoneO (o : RO) : RO := { o with out := 1, val := 0 }
def putDoneL (b n : Nat) (L : List Int) (o : RO) : List Int := L.set (tn b n o.tick) (uw (wt n o.tick + 1))
def takeHeadO (b : Nat) (L : List Int) (o : RO) : RO := { o with pc := 6, en := L.getD (b + 1) 0 }
def takeTurnO (b n : Nat) (L : List Int) (o : RO) : RO := { o with pc := 7, out := if L.getD (tn b n o.en) 0 = uw (wt n o.en + 1) then o.out else 4 }
def takeValueO (b n : Nat) (L : List Int) (o : RO) : RO := { o with pc := 8, val := L.getD (tn b n o.en + 1) 0 }
def takeFreeO (o : RO) : RO := { o with pc := 9 }
def takeFreeL (b n : Nat) (L : List Int) (o : RO) : List Int := L.set (tn b n o.en) (uw (wt n o.en + 2))
def takeDoneO (o : RO) : RO := { o with out := 1 }
def takeDoneL (b : Nat) (L : List Int) (o : RO) : List Int := L.set (b + 1) (uw (o.en + 1))
def drainTailO (b : Nat) (L : List Int) (o : RO) : RO := { o with pc := 11, val := L.getD b 0 }
def drainHeadO (b : Nat) (L : List Int) (o : RO) : RO := { takeHeadO b L o with out := if o.val = uw (L.getD (b + 1) 0 + top) then 5 else o.out }
def lookHeadO (b : Nat) (L : List Int) (o : RO) : RO := { takeHeadO b L o with pc := 13 }
def lookTurnO (b n : Nat) (L : List Int) (o : RO) : RO := { takeTurnO b n L o with out := if (takeTurnO b n L o).over then (takeTurnO b n L o).out else 1 }
def closeTailO (b : Nat) (L : List Int) (o : RO) : RO := { o with pc := 15, out := if top ≤ L.getD b 0 then 1 else o.out, val := if top ≤ L.getD b 0 then 0 else L.getD b 0 }
def closeSwapO (b : Nat) (L : List Int) (o : RO) : RO := { o with pc := 14, out := if L.getD b 0 = o.val then 1 else o.out, val := if L.getD b 0 = o.val then 0 else o.val }
def closeSwapL (b : Nat) (L : List Int) (o : RO) : List Int := if L.getD b 0 = o.val then L.set b (uw (o.val + top)) else L
/-- a step: the cells, the operation -/
def stepL (b n : Nat) (L : List Int) (o : RO) : List Int :=
  match o.pc with
  | 2 => putSwapL b L o | 3 => putValueL b n L o | 4 => putDoneL b n L o | 8 => takeFreeL b n L o | 9 => takeDoneL b L o | 15 => closeSwapL b L o | _ => L
def stepO (b n : Nat) (L : List Int) (o : RO) : RO :=
  match o.pc with
  | 0 => putTailO b L o | 1 => putTurnO b n L o | 2 => putSwapO b L o | 3 => putValueO o | 4 => putDoneO o | 5 => takeHeadO b L o | 6 => takeTurnO b n L o | 7 => takeValueO b n L o
  | 8 => takeFreeO o | 9 => takeDoneO o | 10 => drainTailO b L o | 11 => drainHeadO b L o | 12 => lookHeadO b L o | 13 => lookTurnO b n L o | 14 => closeTailO b L o | 15 => closeSwapO b L o | _ => o
/-- a step of what isn't over -/
def goL (b n : Nat) (L : List Int) (o : RO) : List Int := if o.over then L else stepL b n L o
def goO (b n : Nat) (L : List Int) (o : RO) : RO := if o.over then o else stepO b n L o
def LI (L : List Int) : Prop := ∀ x ∈ L, 0 ≤ x ∧ x ≤ 18446744073709551615
theorem LI.get {L : List Int} (h : LI L) (i : Nat) : 0 ≤ L.getD i 0 ∧ L.getD i 0 ≤ 18446744073709551615 := by
  rw [List.getD_eq_getElem?_getD]
  by_cases hi : i < L.length
  · rw [List.getElem?_eq_getElem hi]; exact h _ (List.getElem_mem hi)
  · rw [List.getElem?_eq_none (by omega)]; simp
theorem LI.set {L : List Int} (h : LI L) (i : Nat) (x : Int) (hx : 0 ≤ x ∧ x ≤ 18446744073709551615) : LI (L.set i x) := fun y hy => by
  rcases List.mem_or_eq_of_mem_set hy with hy | rfl
  · exact h y hy
  · exact hx
theorem uw_eq (x : Int) : uw x = x % 18446744073709551616 := by
  unfold uw IntKind.wrap; simp [IntKind.bits, IntKind.signed]
theorem uw_in (x : Int) : 0 ≤ uw x ∧ uw x ≤ 18446744073709551615 := by
  rw [uw_eq]; omega
theorem goL_len (b n : Nat) (L : List Int) (o : RO) : (goL b n L o).length = L.length := by
  unfold goL; split
  · rfl
  · unfold stepL; split <;> (try rfl) <;> simp only [putSwapL, putValueL, putDoneL, takeFreeL, takeDoneL, closeSwapL] <;> (try split) <;> simp
theorem goL_in {b n : Nat} {L : List Int} {o : RO} (h : LI L) (ho : OI o) : LI (goL b n L o) := by
  unfold goL; split
  · exact h
  · unfold stepL; split <;> (try exact h) <;> simp only [putSwapL, putValueL, putDoneL, takeFreeL, takeDoneL, closeSwapL] <;> (try split) <;> first | exact h | exact h.set _ _ (uw_in _) | exact h.set _ _ ⟨ho.v0, ho.v1⟩
theorem goO_in {b n : Nat} {L : List Int} {o : RO} (h : LI L) (ho : OI o) : OI (goO b n L o) := by
  obtain ⟨a1, a2, a3, a4, a5, a6, a7⟩ := ho
  unfold goO; split
  · exact ⟨a1, a2, a3, a4, a5, a6, a7⟩
  · have g := h.get
    unfold stepO; split <;> (try simp only [putTailO, putTurnO, putSwapO, putValueO, putDoneO, takeHeadO, takeTurnO, takeValueO, takeFreeO, takeDoneO, drainTailO, drainHeadO, lookHeadO, lookTurnO, closeTailO, closeSwapO]) <;> (repeat' split) <;>
      (constructor <;> first | assumption | exact (g _).1 | exact (g _).2 | (simp; done) | (split <;> simp; done) | (split <;> first | assumption | exact (g _).1 | exact (g _).2 | simp))
/-- so many steps, or fewer if it is over: how many, and what is then -/
def doN (b n : Nat) : Nat → List Int → RO → Nat × List Int × RO
  | 0, L, o => (0, L, o)
  | k + 1, L, o => if o.over then (0, L, o) else ((doN b n k (goL b n L o) (goO b n L o)).1 + 1, (doN b n k (goL b n L o) (goO b n L o)).2)
theorem doN_over (b n k : Nat) (L : List Int) (o : RO) (h : o.over = true) : doN b n k L o = (0, L, o) := by
  cases k with
  | zero => rfl
  | succ k => rw [doN, if_pos h]
theorem doN_go (b n k : Nat) (L : List Int) (o : RO) (h : o.over = false) : doN b n (k + 1) L o = ((doN b n k (goL b n L o) (goO b n L o)).1 + 1, (doN b n k (goL b n L o) (goO b n L o)).2) := by
  rw [doN, if_neg (by simp [h])]
/-- the first i cells of a ring, blank -/
def zap (L : List Int) (b : Nat) : Nat → List Int
  | 0 => L
  | i + 1 => (zap L b i).set (b + i) 0
theorem zap_len (L : List Int) (b : Nat) : ∀ i, (zap L b i).length = L.length
  | 0 => rfl
  | i + 1 => by rw [zap, List.length_set, zap_len L b i]
theorem zap_rep (k b : Nat) : ∀ i, zap (List.replicate k 0) b i = List.replicate k 0
  | 0 => rfl
  | i + 1 => by
    rw [zap, zap_rep k b i]
    apply List.ext_getElem
    · simp
    · intro j h1 h2; rw [List.getElem_set]; simp
/-- the first i are x, the others nought -/
def fil (x : Int) (len i : Nat) : List Int := List.replicate i x ++ List.replicate (len - i) 0
theorem fil_len (x : Int) {len i : Nat} (h : i ≤ len) : (fil x len i).length = len := by simp [fil]; omega
theorem fil_0 (x : Int) (len : Nat) : fil x len 0 = List.replicate len 0 := by simp [fil]
theorem fil_full (x : Int) (len : Nat) : fil x len len = List.replicate len x := by simp [fil]
theorem fil_set (x : Int) {len i : Nat} (h : i < len) : (fil x len i).set i x = fil x len (i + 1) := by
  unfold fil
  rw [List.set_append_right _ _ (by simp), List.length_replicate, Nat.sub_self, show len - i = (len - (i + 1)) + 1 by omega, List.replicate_succ, List.set_cons_zero, List.replicate_succ', List.append_assoc]
  rfl
def sizeR (s : Int) : Int := if 1 ≤ s ∧ s ≤ 64 then 2 + 2 * s else 0
theorem sizeR_ok {n : Nat} (h1 : 1 ≤ n) (h2 : n ≤ 64) : sizeR (n : Int) = ((2 + 2 * n : Nat) : Int) := by unfold sizeR; rw [if_pos (by omega)]; omega
theorem LI_rep (k : Nat) : LI (List.replicate k 0) := fun x hx => by rw [List.eq_of_mem_replicate hx]; simp
end Go.L.Ring
