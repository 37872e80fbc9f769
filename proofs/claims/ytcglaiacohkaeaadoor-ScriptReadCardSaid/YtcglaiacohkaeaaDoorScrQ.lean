/-
  Lines of scripts, on paper: the reference's way of writing an entry comes to the same. Own work; no program.
-/
import Derived.Test.YtcglaiacohkaeaaDoorScrP
set_option linter.unusedSimpArgs false
set_option linter.unusedVariables false
set_option linter.unusedSectionVars false
namespace Go.L.Sc
open Go.L Go.L.Lx Go.L.Pa
theorem numV_itoa (lo hi n : Int) : numV lo hi (itoaB n) = if lo ≤ n ∧ n ≤ hi then some n else none := by
  unfold numV; rw [raw_itoa]
  by_cases h : lo ≤ n ∧ n ≤ hi
  · rw [if_pos ⟨h.1, h.2, rfl⟩, if_pos h]
  · rw [if_neg (fun h2 => h ⟨h2.1, h2.2.1⟩), if_neg h]
theorem name_free {s : By} (h : isName s = true) : (32 : UInt8) ∉ s := fun hm => by
  cases s with
  | nil => cases h
  | cons c r =>
    unfold isName at h
    simp only [Bool.and_eq_true, decide_eq_true_eq] at h
    have h2 := spn_take isIn (c :: r)
    rw [h.1.2, List.take_length] at h2
    exact absurd (h2 32 hm) (by decide)
theorem split_len1 {c : UInt8} {l : By} (h : (splitB c l).length = 1) : splitB c l = [l] ∧ c ∉ l := by
  obtain ⟨w, ws, hw⟩ := split_cons (c := c) (l := l)
  rw [hw] at h
  obtain rfl : ws = [] := List.eq_nil_of_length_eq_zero (by simpa using h)
  have h1 := join_split c l
  rw [hw] at h1
  have h2 : w = l := by rw [← h1]; simp [joinC]
  exact ⟨by rw [hw, h2], fun hm => split_free l w (by rw [hw]; simp) (h2 ▸ hm)⟩
theorem partsE_len : ∀ {cs : By} {ws : List By} {e e' : Ent}, partsE cs ws e = some e' → cs.length = ws.length
  | [], [], _, _, _ => rfl
  | [], _ :: _, _, _, h => by cases h
  | _ :: _, [], _, _, h => by cases h
  | c :: cs, w :: ws, e, e', h => by
    unfold partsE at h
    cases hp : partE c w e with
    | none => rw [hp] at h; cases h
    | some x => rw [hp] at h; rw [List.length_cons, List.length_cons, partsE_len h]
theorem read_words {w : By} {ws : List By} (h : ∀ v ∈ w :: ws, (32 : UInt8) ∉ v) : readE (joinC 32 (w :: ws)) = wordsE w ws := by
  unfold readE; rw [split_join (by simp) h]
/-- the reference's way: letter by letter; what isn't written must be nothing -/
def refG (e : Ent) : By → By → Ent → Option By
  | [], s, left => if left = ent0 then some s else none
  | c :: cs, s, left =>
    if c.toNat = 116 then (if isName e.tag then refG e cs (s ++ 32 :: e.tag) { left with tag := [] } else none)
    else if 0 ≤ (if c.toNat = 97 then e.a else if c.toNat = 98 then e.b else e.n) ∧ (if c.toNat = 97 then e.a else if c.toNat = 98 then e.b else e.n) ≤ 65535 then
      refG e cs (s ++ 32 :: itoaB (if c.toNat = 97 then e.a else if c.toNat = 98 then e.b else e.n)) (if c.toNat = 97 then { left with a := 0 } else if c.toNat = 98 then { left with b := 0 } else { left with n := 0 })
    else none
def refL (e : Ent) : Option By := if (formE e.kind).1 = [] then none else refG e (formE e.kind).2 (formE e.kind).1 { e with kind := 0 }
theorem form_no {k : Int} (h : ¬ (1 ≤ k ∧ k ≤ 7)) : formE k = ([], []) := by
  unfold formE
  rw [if_neg (by omega), if_neg (by omega), if_neg (by omega), if_neg (by omega), if_neg (by omega), if_neg (by omega), if_neg (by omega)]
theorem free_lit : (32 : UInt8) ∉ ([119, 111, 114, 107] : By) ∧ (32 : UInt8) ∉ ([104, 97, 110, 100] : By) ∧ (32 : UInt8) ∉ ([99, 108, 111, 99, 107] : By) ∧ (32 : UInt8) ∉ ([116, 101, 108, 108] : By) ∧ (32 : UInt8) ∉ ([115, 116, 111, 112] : By) ∧ (32 : UInt8) ∉ ([116, 105, 99, 107] : By) ∧ (32 : UInt8) ∉ ([115, 104, 117, 116] : By) := by decide
theorem free3 {x y z : By} (h1 : (32 : UInt8) ∉ x) (h2 : (32 : UInt8) ∉ y) (h3 : (32 : UInt8) ∉ z) : ∀ v ∈ [x, y, z], (32 : UInt8) ∉ v := fun v hv => by
  simp only [List.mem_cons, List.not_mem_nil, or_false] at hv
  rcases hv with rfl | rfl | rfl <;> assumption
theorem free2 {x y : By} (h1 : (32 : UInt8) ∉ x) (h2 : (32 : UInt8) ∉ y) : ∀ v ∈ [x, y], (32 : UInt8) ∉ v := fun v hv => by
  simp only [List.mem_cons, List.not_mem_nil, or_false] at hv
  rcases hv with rfl | rfl <;> assumption
theorem free1 {x : By} (h1 : (32 : UInt8) ∉ x) : ∀ v ∈ [x], (32 : UInt8) ∉ v := fun v hv => by rw [List.mem_singleton.1 hv]; exact h1
theorem refL_eq (e : Ent) : refL e = lineE e := by
  obtain ⟨k, a, b, tag, n⟩ := e
  obtain ⟨f1, f2, f3, f4, f5, f6, f7⟩ := free_lit
  by_cases hk : 1 ≤ k ∧ k ≤ 7
  · rcases (show k = 1 ∨ k = 2 ∨ k = 3 ∨ k = 4 ∨ k = 5 ∨ k = 6 ∨ k = 7 by omega) with rfl | rfl | rfl | rfl | rfl | rfl | rfl
    · have hr : readE (candE ⟨1, a, b, tag, n⟩) = partsE [97, 110] [itoaB a, itoaB n] { ent0 with kind := 1 } := read_words (free3 f1 (itoa_free a) (itoa_free n))
      have hc : candE ⟨1, a, b, tag, n⟩ = [119, 111, 114, 107] ++ 32 :: itoaB a ++ 32 :: itoaB n := by simp [candE, joinC, formE, fieldE]
      unfold lineE; rw [hr, hc]; clear hr hc
      show refG ⟨1, a, b, tag, n⟩ [97, 110] [119, 111, 114, 107] ⟨0, a, b, tag, n⟩ = _
      by_cases h1 : 0 ≤ a ∧ a ≤ 65535 <;> by_cases h2 : 0 ≤ n ∧ n ≤ 65535 <;> by_cases h3 : b = 0 <;> by_cases h4 : tag = [] <;> simp [refG, partsE, partE, numV_itoa, ent0, h1, h2, h3, h4, @eq_comm Int 0, @eq_comm By []]
    · have hr : readE (candE ⟨2, a, b, tag, n⟩) = partsE [97] [itoaB a] { ent0 with kind := 2 } := read_words (free2 f2 (itoa_free a))
      have hc : candE ⟨2, a, b, tag, n⟩ = [104, 97, 110, 100] ++ 32 :: itoaB a := by simp [candE, joinC, formE, fieldE]
      unfold lineE; rw [hr, hc]; clear hr hc
      show refG ⟨2, a, b, tag, n⟩ [97] [104, 97, 110, 100] ⟨0, a, b, tag, n⟩ = _
      by_cases h1 : 0 ≤ a ∧ a ≤ 65535 <;> by_cases h2 : n = 0 <;> by_cases h3 : b = 0 <;> by_cases h4 : tag = [] <;> simp [refG, partsE, partE, numV_itoa, ent0, h1, h2, h3, h4, @eq_comm Int 0, @eq_comm By []]
    · have hr : readE (candE ⟨3, a, b, tag, n⟩) = partsE [] [] { ent0 with kind := 3 } := read_words (free1 f3)
      have hc : candE ⟨3, a, b, tag, n⟩ = [99, 108, 111, 99, 107] := by simp [candE, joinC, formE, fieldE]
      unfold lineE; rw [hr, hc]; clear hr hc
      show refG ⟨3, a, b, tag, n⟩ [] [99, 108, 111, 99, 107] ⟨0, a, b, tag, n⟩ = _
      by_cases h1 : a = 0 <;> by_cases h2 : n = 0 <;> by_cases h3 : b = 0 <;> by_cases h4 : tag = [] <;> simp [refG, partsE, partE, numV_itoa, ent0, h1, h2, h3, h4, @eq_comm Int 0, @eq_comm By []]
    · have hc : candE ⟨4, a, b, tag, n⟩ = [116, 101, 108, 108] ++ 32 :: itoaB a ++ 32 :: itoaB b ++ 32 :: tag ++ 32 :: itoaB n := by simp [candE, joinC, formE, fieldE]
      have hs : splitB 32 (candE ⟨4, a, b, tag, n⟩) = [116, 101, 108, 108] :: itoaB a :: itoaB b :: (splitB 32 tag ++ [itoaB n]) := by
        rw [hc, split_app2, split_app2, split_app2, split_app2, split_one f4, split_one (itoa_free a), split_one (itoa_free b), split_one (itoa_free n)]; rfl
      have hr : readE (candE ⟨4, a, b, tag, n⟩) = partsE [97, 98, 116, 110] (itoaB a :: itoaB b :: (splitB 32 tag ++ [itoaB n])) { ent0 with kind := 4 } := by unfold readE; rw [hs]; rfl
      unfold lineE; rw [hr]
      show refG ⟨4, a, b, tag, n⟩ [97, 98, 116, 110] [116, 101, 108, 108] ⟨0, a, b, tag, n⟩ = _
      by_cases hl : (splitB 32 tag).length = 1
      · obtain ⟨h5, h6⟩ := split_len1 hl
        rw [h5, hc]; clear hr hc hs
        by_cases h1 : 0 ≤ a ∧ a ≤ 65535 <;> by_cases h2 : 0 ≤ n ∧ n ≤ 65535 <;> by_cases h3 : 0 ≤ b ∧ b ≤ 65535 <;> by_cases h4 : isName tag = true <;> simp [refG, partsE, partE, numV_itoa, ent0, h1, h2, h3, h4, @eq_comm Int 0, @eq_comm By []]
      · have hn : isName tag = false := by
          cases hn : isName tag with
          | false => rfl
          | true => exact absurd (by rw [split_one (name_free hn)]; rfl) hl
        rw [if_neg (fun h => by
          have := partsE_len h
          simp only [List.length_cons, List.length_append, List.length_nil] at this; omega)]
        by_cases h1 : 0 ≤ a ∧ a ≤ 65535 <;> by_cases h3 : 0 ≤ b ∧ b ≤ 65535 <;> simp [refG, h1, h3, hn]
    · have hr : readE (candE ⟨5, a, b, tag, n⟩) = partsE [97, 98] [itoaB a, itoaB b] { ent0 with kind := 5 } := read_words (free3 f5 (itoa_free a) (itoa_free b))
      have hc : candE ⟨5, a, b, tag, n⟩ = [115, 116, 111, 112] ++ 32 :: itoaB a ++ 32 :: itoaB b := by simp [candE, joinC, formE, fieldE]
      unfold lineE; rw [hr, hc]; clear hr hc
      show refG ⟨5, a, b, tag, n⟩ [97, 98] [115, 116, 111, 112] ⟨0, a, b, tag, n⟩ = _
      by_cases h1 : 0 ≤ a ∧ a ≤ 65535 <;> by_cases h2 : 0 ≤ b ∧ b ≤ 65535 <;> by_cases h3 : n = 0 <;> by_cases h4 : tag = [] <;> simp [refG, partsE, partE, numV_itoa, ent0, h1, h2, h3, h4, @eq_comm Int 0, @eq_comm By []]
    · have hr : readE (candE ⟨6, a, b, tag, n⟩) = partsE [] [] { ent0 with kind := 6 } := read_words (free1 f6)
      have hc : candE ⟨6, a, b, tag, n⟩ = [116, 105, 99, 107] := by simp [candE, joinC, formE, fieldE]
      unfold lineE; rw [hr, hc]; clear hr hc
      show refG ⟨6, a, b, tag, n⟩ [] [116, 105, 99, 107] ⟨0, a, b, tag, n⟩ = _
      by_cases h1 : a = 0 <;> by_cases h2 : n = 0 <;> by_cases h3 : b = 0 <;> by_cases h4 : tag = [] <;> simp [refG, partsE, partE, numV_itoa, ent0, h1, h2, h3, h4, @eq_comm Int 0, @eq_comm By []]
    · have hr : readE (candE ⟨7, a, b, tag, n⟩) = partsE [97] [itoaB a] { ent0 with kind := 7 } := read_words (free2 f7 (itoa_free a))
      have hc : candE ⟨7, a, b, tag, n⟩ = [115, 104, 117, 116] ++ 32 :: itoaB a := by simp [candE, joinC, formE, fieldE]
      unfold lineE; rw [hr, hc]; clear hr hc
      show refG ⟨7, a, b, tag, n⟩ [97] [115, 104, 117, 116] ⟨0, a, b, tag, n⟩ = _
      by_cases h1 : 0 ≤ a ∧ a ≤ 65535 <;> by_cases h2 : n = 0 <;> by_cases h3 : b = 0 <;> by_cases h4 : tag = [] <;> simp [refG, partsE, partE, numV_itoa, ent0, h1, h2, h3, h4, @eq_comm Int 0, @eq_comm By []]
  · have h1 : refL ⟨k, a, b, tag, n⟩ = none := by unfold refL; rw [form_no hk]; rfl
    have h2 : candE ⟨k, a, b, tag, n⟩ = [] := by unfold candE; rw [form_no hk]; rfl
    have h3 : readE [] = none := by decide
    rw [h1]; unfold lineE; rw [h2, h3]; rfl
end Go.L.Sc
