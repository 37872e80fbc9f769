/-
  What Print answers, on paper: a program is written just if it is right. Own work; no program.
-/
import Derived.Test.YtgmdlhlmffdbhaaGreatDoorParJ
set_option linter.unusedSimpArgs false
set_option linter.unusedVariables false
set_option linter.unusedSectionVars false
namespace Go.L.Pa
open Go.L Go.L.Lx Go.L.Pg
theorem staOK_strip (s : Sta) : staOK (Sta.strip s) = staOK s := by
  unfold staOK Sta.strip; simp only [List.all_map]; rfl
theorem kndOK_strip (k : Knd) : kndOK (Knd.strip k) = kndOK k := by
  unfold kndOK Knd.strip; simp only [List.all_map]
  have : (staOK ∘ Sta.strip) = staOK := funext staOK_strip
  rw [this]
theorem all_ok {K L : List Knd} (e : strip K = strip L) (h : ∀ k ∈ K, kndOK k = true) : ∀ k ∈ L, kndOK k = true := fun k hk => by
  have : Knd.strip k ∈ strip K := by rw [e]; exact List.mem_map_of_mem hk
  obtain ⟨k', hk', e'⟩ := List.mem_map.1 this
  rw [← kndOK_strip, ← e', kndOK_strip]; exact h k' hk'
theorem isName_len {l : By} (h : isName l = true) : l.length ≤ 16 := by
  cases l with
  | nil => simp
  | cons c r => simp only [isName, Bool.and_eq_true, decide_eq_true_eq] at h; omega
theorem itoa_small {n : Int} (h : 0 ≤ n ∧ n ≤ 65535) : (itoaB n).length ≤ 5 := by
  unfold itoaB; rw [if_neg (by omega)]; exact dec_len _ 4 (by omega)
theorem nr_len {s : By} {b : Bool} (h1 : b = true → isName s = true) (h2 : b = false → s = []) : s.length ≤ 16 := by
  cases b with
  | true => exact isName_len (h1 rfl)
  | false => rw [h2 rfl]; simp
theorem eff_wl {e : Eff} (ok : effOK e = true) : wl (effWs e) ≤ 70 := by
  obtain ⟨-, g1, f1, g2, f2, g3, f3, f4, f5, f6, f7⟩ := effOK_inv ok
  have l1 := nr_len g1 f1; have l2 := nr_len g2 f2; have l3 := nr_len g3 f3
  have ld : (itoaB e.delay).length ≤ 5 := by
    cases hb : has (verb e.do').2 100 with
    | true => exact itoa_small (f4 hb)
    | false => rw [f5 hb]; exact itoa_small (by omega)
  have hv := verb_len e.do'
  have hval : (valWs e).length ≤ 5 := by
    unfold valWs
    split
    · decide
    · split
      · decide
      · rename_i h1 h2
        cases hb : has (verb e.do').2 118 with
        | true => rcases f7 hb with h | h | h
                  · exact absurd h.1 h1
                  · exact absurd h.1 h2
                  · exact itoa_small h.2
        | false => exact absurd (f6 hb).1 h1
  unfold effWs; split
  · exact Nat.zero_le _
  · have hp : ∀ c, wl (partWs e c) ≤ 17 := fun c => by
      unfold partWs; repeat' split
      all_goals (simp only [wl]; omega)
    have hb : ∀ ps : By, wl (ps.flatMap (partWs e)) ≤ ps.length * 17 := fun ps => by
      induction ps with
      | nil => exact Nat.zero_le _
      | cons c ps ih => rw [List.flatMap_cons, wl_app, List.length_cons, Nat.add_mul]; have := hp c; omega
    have hb2 := hb (verb e.do').2
    show (verb e.do').1.length + 1 + wl _ ≤ _
    omega
theorem dir_wl (d : Int) : wl (dirWs d) ≤ 11 := by
  unfold dirWs; split
  · have : ∀ i < 4, (dirs.getD i []).length ≤ 10 := by decide
    have := this (d - 1).toNat (by omega)
    simp only [wl]; omega
  · simp [wl]
/-- the parts of a kind are right just if it is -/
theorem prtX_ok {s : Sta} : kndOK (prtX s) = staOK s := by
  unfold kndOK prtX
  simp only [List.all_nil, List.all_cons, Bool.and_true]
  rw [show isName wA = true by decide, show small 0 = true by decide]; simp
theorem rowOK_0 {r : Row} (h : rowOK r = true) : rowOK ⟨r.tag, r.only, r.n, none, 0, []⟩ = true := by
  unfold rowOK at *; simp only [Bool.and_eq_true] at *; exact ⟨h.1, rfl⟩
theorem kndOK_parts {k : Knd} : kndOK k = true ↔ ∀ p ∈ allP k, kndOK p = true := by
  constructor
  · intro ok p hp
    obtain ⟨o1, o2, o3, o4, o5⟩ := kndOK_inv ok
    unfold allP at hp
    rcases List.mem_cons.1 hp with rfl | hp
    · unfold kndOK prt0; simp [o1, small_iff.2 o2, small_iff.2 o3]
    rcases List.mem_append.1 hp with hp | hp
    · obtain ⟨c, hc, rfl⟩ := List.mem_map.1 hp
      unfold kndOK prtC
      rw [show isName wA = true by decide, show small 0 = true by decide]; simp [o4 c hc]
    obtain ⟨s, hs, hp⟩ := List.mem_flatMap.1 hp
    obtain ⟨s1, s2⟩ := staOK_inv (o5 s hs)
    unfold partsS at hp
    rcases List.mem_cons.1 hp with rfl | hp
    · unfold prtS; rw [prtX_ok]; unfold staOK; simp [s1]
    obtain ⟨r, hr, hp⟩ := List.mem_flatMap.1 hp
    unfold partsR at hp
    rcases List.mem_cons.1 hp with rfl | hp
    · unfold prtR; rw [prtX_ok]; unfold staOK; simp only [List.all_cons, List.all_nil, Bool.and_true, Bool.and_eq_true]
      exact ⟨by decide, rowOK_0 (s2 r hr)⟩
    obtain ⟨e, he, rfl⟩ := List.mem_map.1 hp
    unfold prtE; rw [prtX_ok]; unfold staOK; simp only [List.all_cons, List.all_nil, Bool.and_true, Bool.and_eq_true]
    refine ⟨by decide, ?_⟩
    unfold rowOK; simp [(rowOK_inv (s2 r hr)).2.2 e he]
  · intro h
    have h0 := h (prt0 k) List.mem_cons_self
    obtain ⟨o1, o2, o3, -, -⟩ := kndOK_inv h0
    have hc : ∀ c ∈ k.cases, casOK c = true := fun c hc => by
      have := h (prtC c) (List.mem_cons_of_mem _ (List.mem_append_left _ (List.mem_map_of_mem hc)))
      exact (kndOK_inv this).2.2.2.1 c (List.mem_singleton.2 rfl)
    have hs : ∀ s ∈ k.states, staOK s = true := fun s hs => by
      have hin : ∀ p ∈ partsS s, kndOK p = true := fun p hp => h p (List.mem_cons_of_mem _ (List.mem_append_right _ (List.mem_flatMap.2 ⟨s, hs, hp⟩)))
      have h1 := hin (prtS s) List.mem_cons_self
      unfold prtS at h1; rw [prtX_ok] at h1
      have hn : isName s.name = true := (staOK_inv h1).1
      unfold staOK; simp only [Bool.and_eq_true, List.all_eq_true]
      refine ⟨hn, fun r hr => ?_⟩
      have hir : ∀ p ∈ partsR r, kndOK p = true := fun p hp => hin p (List.mem_cons_of_mem _ (List.mem_flatMap.2 ⟨r, hr, hp⟩))
      have h2 := hir (prtR r) List.mem_cons_self
      unfold prtR at h2; rw [prtX_ok] at h2
      have h3 := (staOK_inv h2).2 _ (List.mem_singleton.2 rfl)
      have he : ∀ e ∈ r.effs, effOK e = true := fun e he => by
        have h4 := hir (prtE e) (List.mem_cons_of_mem _ (List.mem_map_of_mem he))
        unfold prtE at h4; rw [prtX_ok] at h4
        have h5 := (staOK_inv h4).2 _ (List.mem_singleton.2 rfl)
        exact (rowOK_inv h5).2.2 e (List.mem_singleton.2 rfl)
      unfold rowOK at h3 ⊢
      simp only [Bool.and_eq_true, List.all_eq_true] at h3 ⊢
      exact ⟨h3.1, he⟩
    unfold kndOK; simp only [Bool.and_eq_true, List.all_eq_true]
    exact ⟨⟨⟨⟨o1, small_iff.2 o2⟩, small_iff.2 o3⟩, hc⟩, hs⟩
theorem badP_ok {p : Knd} (h : badP p = false) : kndOK p = true := by
  unfold badP at h
  cases hp : progP (joinS (kndWs p)) with
  | error e => rw [hp] at h; cases h
  | ok K =>
    rw [hp] at h
    replace h : (!sameL kndEq [p] K) = false := h
    have hs : sameL kndEq [p] K = true := by simpa using h
    exact all_ok (same_eq hs).symm (prg_inv hp).1 p (List.mem_singleton.2 rfl)
theorem ok_badP {p : Knd} (h : kndOK p = true) (hl : wl (kndWs p) ≤ 16384) : badP p = false := by
  have h1 : prgWs [p] = kndWs p := by unfold prgWs; simp
  have h2 := rd_prg (K := [p]) (fun k hk => by rw [List.mem_singleton.1 hk]; exact h) (by rw [h1]; have := joinS_len (kndWs p); omega)
  rw [h1] at h2
  unfold badP; rw [h2]
  show (!sameL kndEq [p] (strip [p])) = false
  rw [same_strip, same_refl]; rfl
theorem part_wl {k : Knd} (ok : kndOK k = true) : ∀ p ∈ allP k, wl (kndWs p) ≤ 16384 := by
  obtain ⟨o1, o2, o3, o4, o5⟩ := kndOK_inv ok
  have h0 : (itoaB 0).length = 1 := by unfold itoaB; rw [if_neg (by omega)]; show (dec 0).length = 1; rw [dec]; rfl
  intro y hy
  unfold allP at hy
  rcases List.mem_cons.1 hy with rfl | hy
  · have := isName_len o1; have := itoa_small o2; have := itoa_small o3
    unfold kndWs prt0 topWs; simp only [wl_app, wl_cons, wl_nil, List.flatMap_nil, List.length_cons, List.length_nil]; omega
  rcases List.mem_append.1 hy with hy | hy
  · obtain ⟨c, hc, rfl⟩ := List.mem_map.1 hy
    have h1 := dir_wl c.do'
    have h2 : c.reason.length ≤ 16 := by
      rcases (casOK_inv (o4 c hc)).1 with h | h
      · rw [h]; simp
      · exact isName_len h
    have h3 : wl (casWs c) ≤ 40 := by
      unfold casWs hdWs; rw [wl_app, wl_app]; split <;> simp only [wl_cons, wl_nil, List.length_cons, List.length_nil] <;> omega
    unfold kndWs prtC topWs; simp only [wl_app, wl_cons, wl_nil, List.flatMap_nil, List.flatMap_cons, List.append_nil, h0, List.length_cons, List.length_nil]; omega
  obtain ⟨s, hs, hy⟩ := List.mem_flatMap.1 hy
  obtain ⟨s1, s2⟩ := staOK_inv (o5 s hs)
  have sn := isName_len s1
  unfold partsS at hy
  rcases List.mem_cons.1 hy with rfl | hy
  · unfold prtS; rw [wl_X]; unfold staWs; simp only [wl_app, wl_cons, wl_nil, List.flatMap_nil, List.length_cons, List.length_nil]; omega
  obtain ⟨r, hr, hy⟩ := List.mem_flatMap.1 hy
  obtain ⟨r1, r2, r3⟩ := rowOK_inv (s2 r hr)
  unfold partsR at hy
  rcases List.mem_cons.1 hy with rfl | hy
  · have t1 : wl (tagWs r) ≤ 20 := by
      unfold tagWs; split
      · decide
      · rename_i h
        rcases r1 with h' | h'
        · exact absurd h'.1 h
        · have := isName_len h'.1; simp only [wl_cons, wl_nil, List.length_cons, List.length_nil]; omega
    have t2 : wl (numWs r) ≤ 6 := by
      unfold numWs
      rcases r2 with ⟨h, h'⟩ | ⟨h, h'⟩
      · rw [h, if_pos rfl]; have := itoa_small h'; simp only [wl_cons, wl_nil]; omega
      · rw [h, if_neg (by decide)]; simp [wl]
    have e1 : wl (rowWs ⟨r.tag, r.only, r.n, none, 0, []⟩) = wl (tagWs r) + wl (numWs r) + 4 := by
      show wl (tagWs r ++ numWs r ++ [wOpen] ++ [] ++ [wShut]) = _
      simp only [wl_app, wl_cons, wl_nil, List.length_cons, List.length_nil]
    unfold prtR; rw [wl_X]; unfold staWs; simp only [wl_app, wl_cons, wl_nil, List.flatMap_nil, List.flatMap_cons, List.append_nil, List.length_cons, List.length_nil, e1]; omega
  obtain ⟨e, he, rfl⟩ := List.mem_map.1 hy
  have h3 := eff_wl (r3 e he)
  have e1 : wl (rowWs ⟨[], false, 0, none, 0, [e]⟩) = 4 + 2 + wl (effWs e) + 2 + 2 := by unfold rowWs effsWs tagWs numWs; simp only [wl_app, wl_cons, wl_nil, List.flatMap_nil, List.flatMap_cons, List.append_nil, List.length_cons, List.length_nil, if_pos, if_neg, Bool.false_eq_true, not_false_eq_true]; omega
  unfold prtE; rw [wl_X]; unfold staWs; simp only [wl_app, wl_cons, wl_nil, List.flatMap_nil, List.flatMap_cons, List.append_nil, List.length_cons, List.length_nil, e1]; omega
theorem printable_iff (k : Knd) : printableP k = true ↔ kndOK k = true := by
  unfold printableP
  rw [Bool.not_eq_true', List.any_eq_false]
  constructor
  · intro h; exact kndOK_parts.2 fun p hp => badP_ok (by simpa using h p hp)
  · intro h p hp; rw [ok_badP (kndOK_parts.1 h p hp) (part_wl h p hp)]; decide
theorem kndOK_R {k : Knd} (h : kndOK k = true) : KndR k := by
  obtain ⟨o1, o2, o3, o4, o5⟩ := kndOK_inv h
  refine ⟨⟨by omega, by omega⟩, ⟨by omega, by omega⟩, fun s hs r hr => ?_⟩
  obtain ⟨r1, r2, r3⟩ := rowOK_inv ((staOK_inv (o5 s hs)).2 r hr)
  refine ⟨by unfold rg; omega, fun e he => ?_⟩
  obtain ⟨-, -, -, -, -, -, -, f4, f5, f6, f7⟩ := effOK_inv (r3 e he)
  constructor
  · cases hb : has (verb e.do').2 118 with
    | true => have := f7 hb; unfold rg; omega
    | false => have := (f6 hb).2; unfold rg; omega
  · cases hb : has (verb e.do').2 100 with
    | true => have := f4 hb; unfold rg; omega
    | false => have := f5 hb; unfold rg; omega
/-- what Print answers -/
theorem printP_eq (K : List Knd) : printP K = if (∀ k ∈ K, kndOK k = true) then (if 16384 < (joinS (prgWs K)).length then ([], 5) else (joinS (prgWs K), 0)) else ([], 1) := by
  by_cases hk : ∀ k ∈ K, kndOK k = true
  · rw [if_pos hk]
    split
    · rename_i hl
      unfold printP; rw [rd_long hl]
      show (if ((5 : Nat) : Int) = 5 then (if K.all printableP then ([], (5 : Int)) else ([], 1)) else ([], 1)) = _
      rw [if_pos (show ((5 : Nat) : Int) = 5 from rfl), if_pos (List.all_eq_true.2 fun k h => (printable_iff k).2 (hk k h))]
    · rename_i hl
      unfold printP; rw [rd_prg hk (by omega)]
      show (if sameL kndEq K (strip K) then (joinS (prgWs K), (0 : Int)) else ([], 1)) = _
      rw [same_strip, same_refl]; rfl
  · rw [if_neg hk]
    unfold printP
    cases hp : progP (joinS (prgWs K)) with
    | error e =>
      show (if (e.1 : Int) = 5 then (if K.all printableP then ([], (5 : Int)) else ([], 1)) else ([], 1)) = _
      split
      · rw [if_neg fun h => hk fun k hk' => (printable_iff k).1 (List.all_eq_true.1 h k hk')]
      · rfl
    | ok K' =>
      show (if sameL kndEq K K' then (joinS (prgWs K), (0 : Int)) else ([], 1)) = _
      rw [if_neg fun h => hk (all_ok (same_eq h).symm (prg_inv hp).1)]
/-! ### places of faults -/
theorem tok_err {p : Nat} {l : By} {e : Err} (h : tok p l = .error e) : e.2 = p ∧ e.1 ≠ 0 ∧ e.1 ≠ 31 ∧ e.1 ≠ 30 ∧ e.1 ≠ 5 := by
  cases l with
  | nil => cases h; exact ⟨rfl, by simp, by simp, by simp, by simp⟩
  | cons c r =>
    rw [tok_eq] at h
    split at h
    · split at h
      · cases h; exact ⟨rfl, by simp, by simp, by simp, by simp⟩
      · cases h
    · split at h
      · split at h
        · cases h; exact ⟨rfl, by simp, by simp, by simp, by simp⟩
        · cases h
      · split at h
        · cases h
        · cases h; exact ⟨rfl, by simp, by simp, by simp, by simp⟩
theorem lex_at : ∀ (p : Nat) (l : By) (e : Err), lex p l = .error e → p ≤ e.2 ∧ e.2 ≤ p + l.length ∧ e.1 ≠ 0 ∧ e.1 ≠ 31 ∧ e.1 ≠ 30 ∧ e.1 ≠ 5 := by
  intro p l
  induction hl : l.length using Nat.strongRecOn generalizing p l with
  | _ n ih =>
    intro e h
    cases l with
    | nil => rw [lex_nil] at h; cases h
    | cons c r =>
      rw [List.length_cons] at hl
      rw [lex] at h
      split at h
      · obtain ⟨a, b, d⟩ := ih r.length (by omega) (p + 1) r rfl e h
        exact ⟨by omega, by omega, d⟩
      · split at h
        · have hs := spn_le notNl r
          obtain ⟨a, b, d⟩ := ih (r.drop (spn notNl r)).length (by rw [List.length_drop]; omega) _ _ rfl e h
          rw [List.length_drop] at b
          exact ⟨by omega, by omega, d⟩
        · cases ht : tok p (c :: r) with
          | error x =>
            rw [ht] at h
            replace h : (Except.error x : Res) = .error e := h
            cases h
            obtain ⟨a, b⟩ := tok_err ht
            exact ⟨by omega, by omega, b⟩
          | ok t =>
            rw [ht] at h
            replace h : pre [t] (lex (p + t.text.length) (r.drop (t.text.length - 1))) = .error e := h
            have h2 := pre_err h
            obtain ⟨h3, h4, h5, h6⟩ := tok_text ht
            try simp only [List.length_cons] at h3
            try simp only [List.length_cons] at h4
            try simp only [List.length_cons] at h5
            obtain ⟨a, b, d⟩ := ih (r.drop (t.text.length - 1)).length (by rw [List.length_drop]; omega) _ _ rfl e h2
            rw [List.length_drop] at b
            exact ⟨by omega, by omega, d⟩
theorem lexAll_at {l : By} {e : Err} (h : lexAll l = .error e) : e.2 ≤ l.length ∧ e.1 ≠ 0 := by
  unfold lexAll at h
  split at h
  · cases h; exact ⟨Nat.zero_le _, by decide⟩
  · have := lex_at 0 l e h; exact ⟨by omega, this.2.2.1⟩
theorem pl_at : ∀ (T : List Tk) (p : Nat) (l : By), Pl p l T → ∀ t ∈ T, p ≤ t.at' ∧ t.at' + t.text.length ≤ p + l.length
  | [], _, _, _, t, ht => by cases ht
  | x :: T, p, l, ⟨k, h1, h2, h3, h4, h5⟩, t, ht => by
    rcases List.mem_cons.1 ht with rfl | ht
    · omega
    · have := pl_at T _ _ h5 t ht
      simp only [List.length_drop] at this; omega
theorem prg_at {l : By} {e : Err} (h : progP l = .error e) : e.1 ≠ 0 ∧ e.2 ≤ l.length := by
  unfold progP at h
  cases hT : lexAll l with
  | error x =>
    rw [hT] at h
    replace h : (Except.error x : Except Err (List Knd)) = .error e := h
    cases h
    exact ⟨(lexAll_at hT).2, (lexAll_at hT).1⟩
  | ok T =>
    rw [hT] at h
    replace h : progT l.length T = .error e := h
    unfold progT at h
    cases hk : kndsP (T.length + 1) [] T with
    | ok K' r => rw [hk] at h; cases h
    | bad r =>
      rw [hk] at h
      replace h : (Except.error (fltOf l.length r) : Except Err (List Knd)) = .error e := h
      cases h
      have hs := lv_knds (T.length + 1) [] T
      rw [hk] at hs
      cases r with
      | nil => exact ⟨by show 31 ≠ 0; decide, Nat.le_refl _⟩
      | cons t r =>
        have hx : lex 0 l = .ok T := by
          unfold lexAll at hT
          split at hT
          · cases hT
          · exact hT
        have := pl_at T 0 l (lex_pl _ _ _ hx) t (Suf.mem hs t List.mem_cons_self)
        exact ⟨by show 30 ≠ 0; decide, by show t.at' ≤ _; omega⟩
end Go.L.Pa
