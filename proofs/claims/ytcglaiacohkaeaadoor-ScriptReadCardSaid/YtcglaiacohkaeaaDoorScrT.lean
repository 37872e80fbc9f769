/-
  Scripts, on paper: there and back; lines that are passed over. Own work; no program.
-/
import Derived.Test.YtcglaiacohkaeaaDoorScrQ
set_option linter.unusedSimpArgs false
set_option linter.unusedVariables false
set_option linter.unusedSectionVars false
namespace Go.L.Sc
open Go.L Go.L.Lx Go.L.Pa
theorem kindE_lit {w : By} (h : kindE w ≠ 0) : (10 : UInt8) ∉ w ∧ ∃ c r, w = c :: r ∧ c.toNat ≠ 35 := by
  unfold kindE at h
  repeat' split at h
  all_goals first | exact absurd rfl h | (rename_i e; subst e; exact ⟨by decide, _, _, rfl, by decide⟩)
theorem num_free {lo hi n : Int} {s : By} (h : numV lo hi s = some n) : (10 : UInt8) ∉ s := by
  obtain ⟨-, -, h⟩ := numV_iff.1 h
  subst h
  have key : ∀ m : Nat, (10 : UInt8) ∉ dec m := fun m h => by
    have := dec_dig m 10 h
    exact absurd this (by decide)
  unfold itoaB
  split
  · intro h
    rcases List.mem_cons.1 h with h | h
    · exact absurd h (by decide)
    · exact key _ h
  · exact key _
theorem name_free10 {s : By} (h : isName s = true) : (10 : UInt8) ∉ s := fun hm => by
  cases s with
  | nil => cases h
  | cons c r =>
    unfold isName at h
    simp only [Bool.and_eq_true, decide_eq_true_eq] at h
    have h2 := spn_take isIn (c :: r)
    rw [h.1.2, List.take_length] at h2
    exact absurd (h2 10 hm) (by decide)
theorem partE_free {c : UInt8} {s : By} {e e' : Ent} (h : partE c s e = some e') : (10 : UInt8) ∉ s := by
  unfold partE at h
  split at h
  · split at h
    · rename_i h2; exact name_free10 h2
    · cases h
  · cases hn : numV 0 65535 s with
    | none => rw [hn] at h; cases h
    | some n => exact num_free hn
theorem partsE_free : ∀ {cs : By} {ws : List By} {e e' : Ent}, partsE cs ws e = some e' → ∀ w ∈ ws, (10 : UInt8) ∉ w
  | [], [], _, _, _ => fun w hw => by cases hw
  | [], _ :: _, _, _, h => by cases h
  | _ :: _, [], _, _, h => by cases h
  | c :: cs, w :: ws, e, e', h => by
    unfold partsE at h
    cases hp : partE c w e with
    | none => rw [hp] at h; cases h
    | some x =>
      rw [hp] at h
      intro v hv
      rcases List.mem_cons.1 hv with rfl | hv
      · exact partE_free hp
      · exact partsE_free h v hv
theorem read_free {s : By} {e : Ent} (h : readE s = some e) : (10 : UInt8) ∉ s ∧ passed s = false := by
  obtain ⟨w, ws, hs⟩ := split_cons (c := 32) (l := s)
  have hj := join_split 32 s
  unfold readE at h
  rw [hs] at h hj
  change wordsE w ws = some e at h
  unfold wordsE at h
  split at h
  · cases h
  · rename_i hk
    obtain ⟨h1, c, r, rfl, h2⟩ := kindE_lit hk
    have h3 := partsE_free h
    constructor
    · rw [← hj]
      intro hm
      unfold joinC at hm
      rcases List.mem_append.1 hm with hm | hm
      · exact h1 hm
      · obtain ⟨v, hv, hm⟩ := List.mem_flatMap.1 hm
        rcases List.mem_cons.1 hm with hm | hm
        · exact absurd hm (by decide)
        · exact h3 v hv hm
    · rw [← hj]
      show decide (c.toNat = 35) = false
      exact decide_eq_false h2
theorem line_read {e : Ent} {l : By} (h : lineE e = some l) : readE l = some e := by
  unfold lineE at h
  split at h
  · rename_i h2; injection h with h; rw [← h]; exact h2
  · cases h
/-- what has been written: a line an entry -/
structure Wrote (ls : List By) (es : List Ent) : Prop where
  read : ls.map readE = es.map some
  free : ∀ l ∈ ls, (10 : UInt8) ∉ l
  left : ∀ l ∈ ls, passed l = false
theorem text_wrote : ∀ (es : List Ent) (i : Nat) (b s : By) (x : Int), textG i es b = (s, x, 0) → x = 0 ∧ s.length ≤ 16384 ∧ ∃ ls, s = b ++ ls.flatMap (fun l => l ++ [10]) ∧ Wrote ls es
  | [], i, b, s, x, h => by
    unfold textG at h
    split at h
    · cases h
    · rename_i h2
      cases h
      exact ⟨rfl, by omega, [], by simp, rfl, fun l hl => absurd hl List.not_mem_nil, fun l hl => absurd hl List.not_mem_nil⟩
  | e :: es, i, b, s, x, h => by
    unfold textG at h
    split at h
    · cases h
    · rename_i l hl
      obtain ⟨h1, h2, ls, h3, h4, h5, h6⟩ := text_wrote es (i + 1) _ s x h
      have hr := line_read hl
      obtain ⟨h7, h8⟩ := read_free hr
      refine ⟨h1, h2, l :: ls, by rw [h3]; simp, by rw [List.map_cons, List.map_cons, hr, h4], ?_, ?_⟩
      · intro v hv
        rcases List.mem_cons.1 hv with rfl | hv
        · exact h7
        · exact h5 v hv
      · intro v hv
        rcases List.mem_cons.1 hv with rfl | hv
        · exact h8
        · exact h6 v hv
theorem split_lines : ∀ (ls : List By), (∀ l ∈ ls, (10 : UInt8) ∉ l) → splitB 10 (ls.flatMap fun l => l ++ [10]) = ls ++ [[]]
  | [], _ => rfl
  | l :: ls, h => by
    rw [List.flatMap_cons, List.append_assoc, show ([10] : By) ++ (ls.flatMap fun l => l ++ [10]) = 10 :: (ls.flatMap fun l => l ++ [10]) from rfl, split_app _ (h l List.mem_cons_self), split_lines ls fun v hv => h v (List.mem_cons_of_mem _ hv)]
    rfl
theorem lines_p {i : Nat} {x : By} {ls : List By} {acc : List Ent} (h : passed x = true) : linesS i (x :: ls) acc = linesS (i + 1) ls acc := if_pos h
theorem lines_n {i : Nat} {x : By} {ls : List By} {acc : List Ent} (h : passed x = false) (h2 : readE x = none) : linesS i (x :: ls) acc = ([], ((i + 1 : Nat) : Int), 60) := by
  refine (if_neg (by rw [h]; decide)).trans ?_
  rw [h2]
theorem lines_s {i : Nat} {x : By} {ls : List By} {acc : List Ent} {e : Ent} (h : passed x = false) (h2 : readE x = some e) : linesS i (x :: ls) acc = linesS (i + 1) ls (acc ++ [e]) := by
  refine (if_neg (by rw [h]; decide)).trans ?_
  rw [h2]
theorem lines_all : ∀ (ls : List By) (es : List Ent) (i : Nat) (acc : List Ent), Wrote ls es → linesS i (ls ++ [[]]) acc = (acc ++ es, 0, 0)
  | [], [], i, acc, _ => by
    rw [List.nil_append, lines_p rfl, List.append_nil]; rfl
  | [], _ :: _, _, _, h => by cases h.read
  | _ :: _, [], _, _, h => by cases h.read
  | l :: ls, e :: es, i, acc, h => by
    have h1 := h.read
    simp only [List.map_cons, List.cons.injEq] at h1
    rw [List.cons_append, lines_s (h.left l List.mem_cons_self) h1.1, lines_all ls es (i + 1) (acc ++ [e]) ⟨h1.2, fun v hv => h.free v (List.mem_cons_of_mem _ hv), fun v hv => h.left v (List.mem_cons_of_mem _ hv)⟩]
    simp
/-- THERE AND BACK -/
theorem script_text {es : List Ent} {s : By} {x : Int} (h : textS es = (s, x, 0)) : x = 0 ∧ scriptS s = (es, 0, 0) := by
  obtain ⟨h1, h2, ls, h3, h4⟩ := text_wrote es 0 [] s x h
  refine ⟨h1, ?_⟩
  rw [List.nil_append] at h3
  unfold scriptS
  rw [if_neg (by omega), h3, split_lines ls h4.free, lines_all ls es 0 [] h4]
  rfl
/-! ### lines that are passed over -/
def outL (r : List Ent × Int × Int) : List Ent × Int := (r.1, r.2.2)
theorem lines_sh : ∀ (ls : List By) (i j : Nat) (acc : List Ent), outL (linesS i ls acc) = outL (linesS j ls acc)
  | [], _, _, _ => rfl
  | l :: ls, i, j, acc => by
    by_cases hp : passed l = true
    · rw [lines_p hp, lines_p hp]; exact lines_sh ls _ _ _
    · have hp' : passed l = false := by simpa using hp
      cases hr : readE l with
      | none => rw [lines_n hp' hr, lines_n hp' hr]; rfl
      | some e => rw [lines_s hp' hr, lines_s hp' hr]; exact lines_sh ls _ _ _
theorem lines_skip : ∀ (ps B : List By) (i : Nat) (acc : List Ent), (∀ p ∈ ps, passed p = true) → outL (linesS i (ps ++ B) acc) = outL (linesS i B acc)
  | [], _, _, _, _ => rfl
  | p :: ps, B, i, acc, h => by
    rw [List.cons_append, lines_p (h p List.mem_cons_self), lines_skip ps B (i + 1) acc fun q hq => h q (List.mem_cons_of_mem _ hq)]
    exact lines_sh B _ _ _
theorem lines_ins : ∀ (A ps B : List By) (i : Nat) (acc : List Ent), (∀ p ∈ ps, passed p = true) → outL (linesS i (A ++ (ps ++ B)) acc) = outL (linesS i (A ++ B) acc)
  | [], ps, B, i, acc, h => lines_skip ps B i acc h
  | l :: A, ps, B, i, acc, h => by
    rw [List.cons_append, List.cons_append]
    by_cases hp : passed l = true
    · rw [lines_p hp, lines_p hp]; exact lines_ins A ps B _ _ h
    · have hp' : passed l = false := by simpa using hp
      cases hr : readE l with
      | none => rw [lines_n hp' hr, lines_n hp' hr]
      | some e => rw [lines_s hp' hr, lines_s hp' hr]; exact lines_ins A ps B _ _ h
theorem script_ins {t m : By} {k : Nat} (hk : k ≤ t.length) (h0 : 0 < k → t[k - 1]? = some 10) (hm : (10 : UInt8) ∉ m) (hl : t.length + m.length ≤ 16000) :
    outL (scriptS (t.take k ++ ([35] ++ (m ++ ([10, 10] ++ t.drop k))))) = outL (scriptS t) := by
  have ht : t = t.take k ++ t.drop k := (List.take_append_drop k t).symm
  have hlen : (t.take k).length + (t.drop k).length = t.length := by simp; omega
  have hps : ∀ p ∈ ([35 :: m, []] : List By), passed p = true := fun p hp => by
    simp only [List.mem_cons, List.not_mem_nil, or_false] at hp
    rcases hp with rfl | rfl <;> rfl
  have hm2 : (10 : UInt8) ∉ 35 :: m := fun h => by
    rcases List.mem_cons.1 h with h | h
    · exact absurd h (by decide)
    · exact hm h
  have hsp : splitB 10 ([35] ++ (m ++ ([10, 10] ++ t.drop k))) = [35 :: m, []] ++ splitB 10 (t.drop k) := by
    show splitB 10 ((35 :: m) ++ 10 :: 10 :: t.drop k) = _
    rw [split_app _ hm2, split_T]; rfl
  have e1 : scriptS (t.take k ++ ([35] ++ (m ++ ([10, 10] ++ t.drop k)))) = linesS 0 (splitB 10 (t.take k ++ ([35] ++ (m ++ ([10, 10] ++ t.drop k))))) [] := by
    unfold scriptS; rw [if_neg]; simp only [List.length_append, List.length_cons, List.length_nil]; omega
  have e2 : scriptS t = linesS 0 (splitB 10 t) [] := by unfold scriptS; rw [if_neg (by omega)]
  rw [e1, e2]
  by_cases hz : k = 0
  · subst hz
    rw [List.take_zero, List.nil_append, hsp, List.drop_zero]
    exact lines_skip _ _ _ _ hps
  · obtain ⟨j, rfl⟩ : ∃ j, k = j + 1 := ⟨k - 1, by omega⟩
    have h1 : t.take (j + 1) = t.take j ++ [10] := by
      rw [List.take_add_one, show t[j]? = some 10 from h0 (by omega)]; rfl
    have e3 : splitB 10 t = splitB 10 (t.take j) ++ splitB 10 (t.drop (j + 1)) := by
      rw [← split_app2, show t.take j ++ 10 :: t.drop (j + 1) = t.take (j + 1) ++ t.drop (j + 1) by rw [h1]; simp, List.take_append_drop]
    rw [e3, h1, List.append_assoc, show ([10] : By) ++ ([35] ++ (m ++ ([10, 10] ++ t.drop (j + 1)))) = 10 :: ([35] ++ (m ++ ([10, 10] ++ t.drop (j + 1)))) from rfl, split_app2, hsp]
    exact lines_ins _ _ _ _ _ hps
end Go.L.Sc
