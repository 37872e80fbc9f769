/-
  Lines of events, on paper: the reference's way of writing an event comes to the same. Own work; no program.
-/
import Derived.Test.YtcglaiacohkaeaaDoorScrQ
set_option linter.unusedSimpArgs false
set_option linter.unusedVariables false
set_option linter.unusedSectionVars false
namespace Go.L.Sc
open Go.L Go.L.Lx Go.L.Pa
def goodN (e : Evt) : Prop := e.name = [] ∨ isName e.name = true
theorem goodN_free {e : Evt} (h : goodN e) : (32 : UInt8) ∉ e.name := by
  rcases h with h | h
  · rw [h]; simp
  · exact name_free h
theorem goodN_dash {e : Evt} (h : goodN e) : e.name ≠ wDash := fun h2 => by
  rcases h with h | h
  · rw [h] at h2; cases h2
  · rw [h2] at h; exact absurd h (by decide)
theorem partV_good {c : UInt8} {s : By} {e e' : Evt} (he : goodN e) (h : partV c s e = some e') : goodN e' := by
  unfold partV at h
  split at h
  · cases h; exact .inl rfl
  · split at h
    · split at h
      · rename_i h2; cases h; exact .inr h2
      · cases h
    · split at h
      · cases hv : numV 0 big50 s with
        | none => rw [hv] at h; cases h
        | some n => rw [hv] at h; cases h; exact he
      · cases hv : numV (-65535) 65535 s with
        | none => rw [hv] at h; cases h
        | some n =>
          rw [hv] at h
          simp only [Option.map_some, Option.some.injEq] at h
          subst h
          repeat' split
          all_goals exact he
theorem partsV_good : ∀ {cs : By} {ws : List By} {e e' : Evt}, goodN e → partsV cs ws e = some e' → goodN e'
  | [], [], e, e', he, h => by unfold partsV at h; cases h; exact he
  | [], [w], e, e', he, h => by
    unfold partsV at h
    split at h
    · cases h; exact he
    · cases h
  | [], _ :: _ :: _, _, _, _, h => by cases h
  | _ :: _, [], _, _, _, h => by cases h
  | c :: cs, w :: ws, e, e', he, h => by
    unfold partsV at h
    cases hp : partV c w e with
    | none => rw [hp] at h; cases h
    | some x => rw [hp] at h; exact partsV_good (partV_good he hp) h
theorem readV_good {s : By} {e : Evt} (h : readV s = some e) : goodN e := by
  unfold readV at h
  split at h
  · cases h
  · unfold wordsV at h
    split at h
    · cases h
    · exact partsV_good (.inl rfl) h
/-! ### letter by letter -/
def numF (e : Evt) (c : UInt8) : Int := if c.toNat = 65 then e.actor else if c.toNat = 70 then e.from' else if c.toNat = 84 then e.to else if c.toNat = 87 then e.why else e.n
def setV (c : UInt8) (e acc : Evt) : Evt :=
  if c.toNat = 77 ∨ c.toNat = 82 then { acc with name := e.name } else if c.toNat = 105 then { acc with id := e.id }
  else if c.toNat = 65 then { acc with actor := e.actor } else if c.toNat = 70 then { acc with from' := e.from' } else if c.toNat = 84 then { acc with to := e.to } else if c.toNat = 87 then { acc with why := e.why } else { acc with n := e.n }
def okV (c : UInt8) (e : Evt) : Bool :=
  if c.toNat = 82 ∧ e.name = [] then true else if c.toNat = 77 ∨ c.toNat = 82 then isName e.name
  else if c.toNat = 105 then decide ((e.id : Int) ≤ big50) else decide (-65535 ≤ numF e c) && decide (numF e c ≤ 65535)
theorem fieldV_num {e : Evt} {c : UInt8} (h1 : ¬ (c.toNat = 77 ∨ c.toNat = 82)) (h2 : ¬ c.toNat = 105) : fieldV e c = itoaB (numF e c) := by
  unfold fieldV numF
  rw [if_neg (fun h => h1 (.inr h.1)), if_neg h1, if_neg h2]
theorem partV_field {e acc : Evt} {c : UInt8} (hg : goodN e) : partV c (fieldV e c) acc = if okV c e = true then some (setV c e acc) else none := by
  by_cases hM : c.toNat = 77 ∨ c.toNat = 82
  · by_cases hR : c.toNat = 82 ∧ e.name = []
    · have h1 : fieldV e c = wDash := by unfold fieldV; rw [if_pos hR]
      rw [h1]; unfold partV okV setV
      rw [if_pos ⟨hR.1, rfl⟩, if_pos hR, if_pos rfl, if_pos hM, hR.2]
    · have h1 : fieldV e c = e.name := by unfold fieldV; rw [if_neg hR, if_pos hM]
      rw [h1]; unfold partV okV setV
      rw [if_neg (fun h => goodN_dash hg h.2), if_pos hM, if_neg hR, if_pos hM, if_pos hM]
  · have hR : ¬ (c.toNat = 82 ∧ e.name = []) := fun h => hM (.inr h.1)
    by_cases hi : c.toNat = 105
    · have h1 : fieldV e c = itoaB (e.id : Int) := by unfold fieldV; rw [if_neg hR, if_neg hM, if_pos hi]
      rw [h1]; unfold partV okV setV
      rw [if_neg (fun h => hM (.inr h.1)), if_neg hM, if_pos hi, if_neg hR, if_neg hM, if_pos hi, if_neg hM, if_pos hi, numV_itoa]
      by_cases hb : (e.id : Int) ≤ big50
      · rw [if_pos ⟨by omega, hb⟩, decide_eq_true hb, if_pos rfl]; simp
      · rw [if_neg (fun h => hb h.2), decide_eq_false hb, if_neg (by decide)]; rfl
    · rw [fieldV_num hM hi]; unfold partV okV
      rw [if_neg (fun h => hM (.inr h.1)), if_neg hM, if_neg hi, if_neg hR, if_neg hM, if_neg hi, numV_itoa]
      by_cases hb : -65535 ≤ numF e c ∧ numF e c ≤ 65535
      · rw [if_pos hb, decide_eq_true hb.1, decide_eq_true hb.2, if_pos (show (true && true) = true from rfl)]
        unfold setV; rw [if_neg hM, if_neg hi]
        simp only [Option.map_some, Option.some.injEq]
        unfold numF; repeat' split
        all_goals rfl
      · rw [if_neg hb, if_neg (fun h => hb (by simpa using h))]; rfl
def setAll (e : Evt) : By → Evt → Evt
  | [], acc => acc
  | c :: cs, acc => setAll e cs (setV c e acc)
theorem partsV_fields {e : Evt} (hg : goodN e) (tl : List By) : ∀ (cs : By) (acc : Evt), partsV cs (cs.map (fieldV e) ++ tl) acc = if cs.all (fun c => okV c e) = true then partsV [] tl (setAll e cs acc) else none
  | [], acc => by simp [setAll]
  | c :: cs, acc => by
    show (partV c (fieldV e c) acc).bind (partsV cs (cs.map (fieldV e) ++ tl)) = _
    rw [partV_field hg]
    by_cases hk : okV c e = true
    · rw [if_pos hk]
      show partsV cs (cs.map (fieldV e) ++ tl) (setV c e acc) = _
      rw [partsV_fields hg tl cs (setV c e acc)]
      simp only [List.all_cons, hk, Bool.true_and]; rfl
    · rw [if_neg hk, if_neg (by simp only [List.all_cons, Bool.and_eq_true]; exact fun h => hk h.1)]; rfl
/-- the reference's way -/
def clrV (c : UInt8) (l : Evt) : Evt :=
  if c.toNat = 77 ∨ c.toNat = 82 then { l with name := [] } else if c.toNat = 105 then { l with id := 0 }
  else if c.toNat = 65 then { l with actor := 0 } else if c.toNat = 70 then { l with from' := 0 } else if c.toNat = 84 then { l with to := 0 } else if c.toNat = 87 then { l with why := 0 } else { l with n := 0 }
def refH (e : Evt) : By → By → Evt → Option By
  | [], s, l => if l = evt0 then some (if e.timed then s ++ 32 :: wTimed else s) else none
  | c :: cs, s, l => if okV c e = true then refH e cs (s ++ 32 :: fieldV e c) (clrV c l) else none
def refV (e : Evt) : Option By :=
  if (formV e.kind).1 = [] ∨ (e.timed = true ∧ e.kind ≠ 2) ∨ ¬ (e.id : Int) ≤ big50 then none else refH e (formV e.kind).2 (formV e.kind).1 { e with kind := 0, timed := false }
def clrAll : By → Evt → Evt
  | [], l => l
  | c :: cs, l => clrAll cs (clrV c l)
theorem refH_eq (e : Evt) : ∀ (cs s : By) (l : Evt), refH e cs s l = if cs.all (fun c => okV c e) = true then (if clrAll cs l = evt0 then some (s ++ (cs.flatMap fun c => 32 :: fieldV e c) ++ (if e.timed then 32 :: wTimed else [])) else none) else none
  | [], s, l => by
    show (if l = evt0 then _ else _) = _
    simp only [List.all_nil, if_true, List.flatMap_nil, List.append_nil, clrAll]
    by_cases h : l = evt0
    · rw [if_pos h, if_pos h]; cases e.timed <;> simp
    · rw [if_neg h, if_neg h]
  | c :: cs, s, l => by
    show (if okV c e = true then _ else _) = _
    by_cases hk : okV c e = true
    · rw [if_pos hk, refH_eq e cs]
      simp only [List.all_cons, hk, Bool.true_and, List.flatMap_cons, List.append_assoc, List.cons_append, clrAll]
    · rw [if_neg hk, if_neg (by simp only [List.all_cons, Bool.and_eq_true]; exact fun h => hk h.1)]
theorem refH_good {e : Evt} (hg : ¬ goodN e) : ∀ (cs s : By) (l : Evt), l.name = e.name → refH e cs s l = none
  | [], s, l, h => by
    show (if l = evt0 then _ else _) = _
    rw [if_neg (fun h2 => hg (.inl (by rw [← h, h2]; rfl)))]
  | c :: cs, s, l, h => by
    show (if okV c e = true then _ else _) = _
    by_cases hM : c.toNat = 77 ∨ c.toNat = 82
    · rw [if_neg]
      unfold okV
      rw [if_neg (fun h2 => hg (.inl h2.2)), if_pos hM]
      exact fun h2 => hg (.inr h2)
    · split
      · refine refH_good hg cs _ _ ?_
        unfold clrV; rw [if_neg hM]
        repeat' split
        all_goals exact h
      · rfl
theorem fieldV_free {e : Evt} (hg : goodN e) (c : UInt8) : (32 : UInt8) ∉ fieldV e c := by
  unfold fieldV
  split
  · decide
  · split
    · exact goodN_free hg
    · exact itoa_free _
theorem formV_no {k : Int} (h : ¬ (1 ≤ k ∧ k ≤ 15)) : formV k = ([], []) := by
  unfold formV
  repeat (rw [if_neg (by omega)])
theorem formV_facts : ∀ k < 15, (32 : UInt8) ∉ (formV ((k + 1 : Nat) : Int)).1 ∧ (formV ((k + 1 : Nat) : Int)).1 ≠ [] ∧ kindV (formV ((k + 1 : Nat) : Int)).1 = ((k + 1 : Nat) : Int) := by decide
theorem candV_words {e : Evt} (hg : goodN e) {k : Nat} (hk : k < 15) (he : e.kind = ((k + 1 : Nat) : Int)) : splitB 32 (candV e) = (formV e.kind).1 :: ((formV e.kind).2.map (fieldV e) ++ (if e.kind = 2 ∧ e.timed = true then [wTimed] else [])) := by
  unfold candV
  refine split_join (by simp) fun w hw => ?_
  rcases List.mem_cons.1 (show w ∈ (formV e.kind).1 :: ((formV e.kind).2.map (fieldV e) ++ (if e.kind = 2 ∧ e.timed = true then [wTimed] else [])) from hw) with rfl | hw
  · rw [he]; exact (formV_facts k hk).1
  · rcases List.mem_append.1 hw with hw | hw
    · obtain ⟨c, _, rfl⟩ := List.mem_map.1 hw; exact fieldV_free hg c
    · split at hw
      · rw [List.mem_singleton.1 hw]; decide
      · cases hw
/-- what is set from nothing is all just if nothing is left -/
theorem set_clr (d : Evt) : ∀ k < 15, (setAll { d with kind := ((k + 1 : Nat) : Int) } (formV ((k + 1 : Nat) : Int)).2 { evt0 with kind := ((k + 1 : Nat) : Int) } = { d with kind := ((k + 1 : Nat) : Int), timed := false } ↔ clrAll (formV ((k + 1 : Nat) : Int)).2 { d with kind := 0, timed := false } = evt0) ∧ (setAll { d with kind := ((k + 1 : Nat) : Int) } (formV ((k + 1 : Nat) : Int)).2 { evt0 with kind := ((k + 1 : Nat) : Int) }).kind = ((k + 1 : Nat) : Int) ∧ (setAll { d with kind := ((k + 1 : Nat) : Int) } (formV ((k + 1 : Nat) : Int)).2 { evt0 with kind := ((k + 1 : Nat) : Int) }).timed = false := by
  obtain ⟨dk, da, di, df, dt, dn, dm, dw, db⟩ := d
  intro k hk
  rcases (show k = 0 ∨ k = 1 ∨ k = 2 ∨ k = 3 ∨ k = 4 ∨ k = 5 ∨ k = 6 ∨ k = 7 ∨ k = 8 ∨ k = 9 ∨ k = 10 ∨ k = 11 ∨ k = 12 ∨ k = 13 ∨ k = 14 by omega) with rfl | rfl | rfl | rfl | rfl | rfl | rfl | rfl | rfl | rfl | rfl | rfl | rfl | rfl | rfl
  all_goals
    refine ⟨?_, rfl, rfl⟩
    simp [formV, setAll, clrAll, setV, clrV, evt0, @eq_comm Int 0, @eq_comm Nat 0, @eq_comm By []]
theorem join_app (c : UInt8) (w : By) (ws tl : List By) : joinC c (w :: (ws ++ tl)) = w ++ ws.flatMap (fun v => c :: v) ++ tl.flatMap (fun v => c :: v) := by simp [joinC]
theorem refV_eq (e : Evt) : refV e = lineV e := by
  by_cases hk : 1 ≤ e.kind ∧ e.kind ≤ 15
  · obtain ⟨k, hk15, he⟩ : ∃ k : Nat, k < 15 ∧ e.kind = ((k + 1 : Nat) : Int) := ⟨(e.kind - 1).toNat, by omega, by omega⟩
    obtain ⟨f1, f2, f3⟩ := formV_facts k hk15
    rw [← he] at f1 f2 f3
    by_cases hg : goodN e
    · have hw := candV_words hg hk15 he
      have hr : readV (candV e) = partsV (formV e.kind).2 ((formV e.kind).2.map (fieldV e) ++ (if e.kind = 2 ∧ e.timed = true then [wTimed] else [])) { evt0 with kind := e.kind } := by
        unfold readV; rw [hw]
        show wordsV _ _ = _
        unfold wordsV; rw [f3, if_neg (by omega)]
      rw [partsV_fields hg] at hr
      obtain ⟨s1, s2, s3⟩ := set_clr e k hk15
      rw [← he] at s1 s2 s3
      have e1 : ({ e with kind := e.kind } : Evt) = e := rfl
      rw [e1] at s1 s2 s3
      have hc : candV e = (formV e.kind).1 ++ ((formV e.kind).2.flatMap fun c => 32 :: fieldV e c) ++ (if e.kind = 2 ∧ e.timed = true then 32 :: wTimed else []) := by
        show joinC 32 ((formV e.kind).1 :: ((formV e.kind).2.map (fieldV e) ++ _)) = _
        rw [join_app, List.flatMap_map]
        split <;> simp
      unfold lineV refV
      rw [refH_eq, hr, hc]
      by_cases hall : ((formV e.kind).2.all fun c => okV c e) = true
      · rw [if_pos hall, if_pos hall]
        by_cases ht : e.timed = true
        · by_cases h2 : e.kind = 2
          · rw [if_pos (show e.kind = 2 ∧ e.timed = true from ⟨h2, ht⟩), if_pos (show e.kind = 2 ∧ e.timed = true from ⟨h2, ht⟩), if_pos ht]
            have hid : (e.id : Int) ≤ big50 := by
              rw [h2] at hall
              have := List.all_eq_true.1 hall 105 (by decide)
              simpa [okV] using this
            rw [if_neg (show ¬ ((formV e.kind).1 = [] ∨ (e.timed = true ∧ e.kind ≠ 2) ∨ ¬ (e.id : Int) ≤ big50) from fun h => by
              rcases h with h | h | h
              · exact f2 h
              · exact h.2 h2
              · exact h hid)]
            have h5 : partsV [] [wTimed] (setAll e (formV e.kind).2 { evt0 with kind := e.kind }) = some { setAll e (formV e.kind).2 { evt0 with kind := e.kind } with timed := true } := by
              show (if _ then _ else _) = _
              rw [if_pos ⟨s2.trans h2, rfl⟩]
            rw [h5]
            have h6 : (some { setAll e (formV e.kind).2 { evt0 with kind := e.kind } with timed := true } = some e) ↔ clrAll (formV e.kind).2 { e with kind := 0, timed := false } = evt0 := by
              rw [← s1, Option.some.injEq]
              generalize setAll e (formV e.kind).2 { evt0 with kind := e.kind } = x at s3
              obtain ⟨x1, x2, x3, x4, x5, x6, x7, x8, x9⟩ := x
              obtain ⟨d1, d2, d3, d4, d5, d6, d7, d8, d9⟩ := e
              simp only at s3 ht
              subst s3; subst ht
              simp
            by_cases hz : clrAll (formV e.kind).2 { e with kind := 0, timed := false } = evt0
            · rw [if_pos hz, if_pos (h6.2 hz)]
            · rw [if_neg hz, if_neg (fun h => hz (h6.1 h))]
          · rw [if_neg (show ¬ (e.kind = 2 ∧ e.timed = true) from fun h => h2 h.1), if_neg (show ¬ (e.kind = 2 ∧ e.timed = true) from fun h => h2 h.1), if_pos (show (formV e.kind).1 = [] ∨ (e.timed = true ∧ e.kind ≠ 2) ∨ ¬ (e.id : Int) ≤ big50 from .inr (.inl ⟨ht, h2⟩))]
            rw [if_neg]
            intro h
            have h7 : setAll e (formV e.kind).2 { evt0 with kind := e.kind } = e := by simpa [partsV] using h
            rw [h7, ht] at s3; cases s3
        · have ht' : e.timed = false := by simpa using ht
          rw [if_neg (show ¬ (e.kind = 2 ∧ e.timed = true) from fun h => ht h.2), if_neg (show ¬ (e.kind = 2 ∧ e.timed = true) from fun h => ht h.2), if_neg ht]
          have h5 : partsV [] [] (setAll e (formV e.kind).2 { evt0 with kind := e.kind }) = some (setAll e (formV e.kind).2 { evt0 with kind := e.kind }) := rfl
          rw [h5]
          have h6 : (some (setAll e (formV e.kind).2 { evt0 with kind := e.kind }) = some e) ↔ clrAll (formV e.kind).2 { e with kind := 0, timed := false } = evt0 := by
            rw [← s1, Option.some.injEq]
            obtain ⟨d1, d2, d3, d4, d5, d6, d7, d8, d9⟩ := e
            simp only at ht'
            subst ht'; rfl
          by_cases hz : clrAll (formV e.kind).2 { e with kind := 0, timed := false } = evt0
          · rw [if_pos hz, if_pos (h6.2 hz), if_neg]
            rintro (h | h | h)
            · exact f2 h
            · exact ht h.1
            · -- a place for ids that is used, or nothing left
              have hid : e.id = 0 ∨ (e.id : Int) ≤ big50 := by
                have hx := h6.2 hz
                by_cases hm : (105 : UInt8) ∈ (formV e.kind).2
                · right
                  have := List.all_eq_true.1 hall 105 hm
                  simpa [okV] using this
                · left
                  rw [Option.some.injEq] at hx
                  have hset : ∀ (cs : By) (acc : Evt), (105 : UInt8) ∉ cs → (setAll e cs acc).id = acc.id := fun cs => by
                    induction cs with
                    | nil => intro acc _; rfl
                    | cons c cs ih =>
                      intro acc hn
                      show (setAll e cs (setV c e acc)).id = _
                      rw [ih _ fun h => hn (List.mem_cons_of_mem _ h)]
                      unfold setV
                      have hc5 : ¬ c.toNat = 105 := fun h => hn (by rw [show (105 : UInt8) = c from UInt8.toNat_inj.1 h.symm]; exact List.mem_cons_self)
                      rw [if_neg hc5]
                      repeat' split
                      all_goals rfl
                  have := hset (formV e.kind).2 { evt0 with kind := e.kind } hm
                  rw [hx] at this; exact this
              rcases hid with hid | hid
              · rw [hid] at h; exact h (by decide)
              · exact h hid
          · rw [if_neg hz, if_neg (fun h => hz (h6.1 h))]
            split <;> rfl
      · rw [if_neg hall, if_neg hall]
        split <;> rfl
    · have h1 : lineV e = none := by
        unfold lineV; rw [if_neg (fun h => hg (readV_good h))]
      rw [h1]; unfold refV
      split
      · rfl
      · exact refH_good hg _ _ _ rfl
  · have h1 : refV e = none := by unfold refV; rw [formV_no hk, if_pos (.inl rfl)]
    have h2 : ∀ x, readV (candV e) = some x → x ≠ e := fun x hx h => by
      subst h
      unfold candV at hx
      rw [formV_no hk] at hx
      rw [if_neg (show ¬ (x.kind = 2 ∧ x.timed = true) from fun h => hk (by omega))] at hx
      change readV [] = some x at hx
      rw [show readV [] = none from by decide] at hx; cases hx
    rw [h1]; unfold lineV
    rw [if_neg (fun h => h2 e h rfl)]
end Go.L.Sc
