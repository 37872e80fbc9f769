/-
  RingOrder and RingBound on paper: the looks at the end. Own work; no program.
-/
import Derived.Test.YtnkcgfllehohbaaRingW
namespace Go.L.Ring
open Go.L
variable {n : Nat} {c : CW} {hs : List Tk}
def cntL (hs : List Tk) (i : Nat) : List Int := [((ofs 0 (hs.take i)).length : Int), ((ofs 1 (hs.take i)).length : Int), ((ofs 2 (hs.take i)).length : Int)]
theorem cntL_get (hs : List Tk) (i : Nat) {p : Nat} (hp : p < 3) : (cntL hs i).getD p 0 = ((ofs p (hs.take i)).length : Int) := by
  match p, hp with
  | 0, _ | 1, _ | 2, _ => rfl
theorem cntL_set {hs : List Tk} {i : Nat} (hi : i < hs.length) (hp : (hs.getD i dT).own < 3) : (cntL hs i).set (hs.getD i dT).own (((ofs (hs.getD i dT).own (hs.take i)).length : Int) + 1) = cntL hs (i + 1) := by
  have h1 := (ofs_get hi rfl).2
  have h2 : ∀ q, (hs.getD i dT).own ≠ q → (ofs q (hs.take (i + 1))).length = (ofs q (hs.take i)).length := fun q hq => ofs_skip hi hq
  generalize (hs.getD i dT).own = p at *
  match p, hp with
  | 0, _ => simp only [cntL, h1, h2 1 (by omega), h2 2 (by omega)]; rfl
  | 1, _ => simp only [cntL, h1, h2 0 (by omega), h2 2 (by omega)]; rfl
  | 2, _ => simp only [cntL, h1, h2 0 (by omega), h2 1 (by omega)]; rfl
theorem CE.own (E : CE n c hs) {t : Nat} (ht : t < hs.length) : (hs.getD t dT).own < 3 ∧ ∃ k : Int, 0 ≤ k ∧ k < 4294967296 ∧ (hs.getD t dT).val = ((hs.getD t dT).own : Int) * 4294967296 + k := by
  obtain ⟨B, _, C⟩ := E.ex; exact C.own t ht
theorem CE.len (E : CE n c hs) : hs.length < 99999 := by obtain ⟨B, h, C⟩ := E.ex; have := C.TB; omega
theorem CE.at (E : CE n c hs) {i : Nat} (hi : i < hs.length) : (ofs (hs.getD i dT).own (hs.take i)).length < (c.inn.getD (hs.getD i dT).own []).length ∧ (c.inn.getD (hs.getD i dT).own [])[(ofs (hs.getD i dT).own (hs.take i)).length]? = some (hs.getD i dT).val := by
  have h1 := (ofs_get hi rfl).1
  rw [E.inn (E.own hi).1]
  constructor
  · rw [List.length_map]; exact (List.getElem?_eq_some_iff.1 h1).1
  · rw [List.getElem?_map, h1]; rfl
/-- rings that are filled -/
structure FS (n T : Nat) (L : List Int) (i : Nat) : Prop where
  len : L.length = 2 + 2 * n
  li : LI L
  tail : L.getD 0 0 = ((T + min i n : Nat) : Int)
  turn : ∀ t, T ≤ t → t < T + n → L.getD (2 + 2 * (t % n)) 0 = ((2 * (t / n) + (if t < T + i then 1 else 0) : Nat) : Int)
theorem CE.fs (E : CE n c hs) : FS n hs.length c.L 0 := by
  obtain ⟨B, _, C⟩ := E.ex
  refine ⟨C.len, C.li, by rw [C.T]; simp, fun t h1 h2 => ?_⟩
  rw [C.turn t h1 h2, if_neg (by omega), if_neg (by omega)]; omega
theorem CE.n18 (E : CE n c hs) : 1 ≤ n ∧ n ≤ 8 := by obtain ⟨B, _, C⟩ := E.ex; exact ⟨C.n1, C.n8⟩
theorem FS.fill {T i : Nat} {L : List Int} (F : FS n T L i) (h1 : 1 ≤ n) (h8 : n ≤ 8) (hT : T < 99999) {v : Int} (hv : 0 ≤ v ∧ v ≤ 18446744073709551615) :
    ∃ k L' o', doN 0 n 100 L ⟨0, 0, v, 0, 0⟩ = (k, L', o') ∧ FS n T L' (i + 1) ∧ o'.out = if i < n then 1 else 2 := by
  have htop : top = 9223372036854775808 := rfl
  have hl := F.len
  by_cases hi : i < n
  · have hm : min i n = i := by omega
    have ht := F.tail; rw [hm] at ht
    have hdl := Nat.div_le_self (T + i) n
    have hmd := Nat.mod_lt (T + i) h1
    have hs : L.getD (tn 0 n ((T + i : Nat) : Int)) 0 = wt n ((T + i : Nat) : Int) := by rw [tnN, wtN _ _ (by omega), F.turn (T + i) (by omega) (by omega), if_neg (by omega)]; rfl
    refine ⟨_, _, _, put_done ht (by omega) hs 95, ?_, by rw [if_pos hi]⟩
    rw [tnN, wtN _ _ (by omega)]
    rw [show (((T + i : Nat) : Int) + 1) = ((T + i + 1 : Nat) : Int) by omega, uwN _ (by omega), show ((2 * ((T + i) / n) : Nat) : Int) + 1 = ((2 * ((T + i) / n) + 1 : Nat) : Int) by omega, uwN _ (by omega)]
    refine ⟨by simp [hl], ((F.li.set _ _ (by omega)).set _ _ hv).set _ _ (by omega), ?_, fun t h1 h2 => ?_⟩
    · rw [getD_set _ _ _ _ _ (by simp; omega), if_neg (by omega), getD_set _ _ _ _ _ (by simp; omega), if_neg (by omega), getD_set _ _ _ _ _ (by omega), if_pos rfl]
      have : min (i + 1) n = i + 1 := by omega
      rw [this]; omega
    · have hmt := Nat.mod_lt t (show 0 < n by omega)
      rw [getD_set _ _ _ _ _ (by simp; omega)]
      by_cases e : t = T + i
      · subst e; rw [if_pos rfl, if_pos (by omega)]
      · have hne : t % n ≠ (T + i) % n := fun x => e (mod_inj (n := n) (f := T) h1 h2 (by omega) (by omega) x)
        rw [if_neg (by omega), getD_set _ _ _ _ _ (by simp; omega), if_neg (by omega), getD_set _ _ _ _ _ (by omega), if_neg (by omega), F.turn t h1 h2]
        congr 2
        by_cases e2 : t < T + i
        · rw [if_pos e2, if_pos (by omega)]
        · rw [if_neg e2, if_neg (by omega)]
  · have hm : min i n = n := by omega
    have ht := F.tail; rw [hm] at ht
    have hdl := Nat.div_le_self (T + n) n
    have hs : L.getD (tn 0 n ((T + n : Nat) : Int)) 0 < wt n ((T + n : Nat) : Int) := by
      rw [tnN, wtN _ _ (by omega), mod_add, F.turn T (by omega) (by omega), if_pos (by omega), div_add n T h1]; omega
    refine ⟨_, _, _, put_full ht (by omega) hs 98, ⟨hl, F.li, by rw [F.tail]; congr 1; omega, fun t h1 h2 => ?_⟩, by rw [if_neg hi]⟩
    rw [F.turn t h1 h2, if_pos (by omega), if_pos (by omega)]
end Go.L.Ring
