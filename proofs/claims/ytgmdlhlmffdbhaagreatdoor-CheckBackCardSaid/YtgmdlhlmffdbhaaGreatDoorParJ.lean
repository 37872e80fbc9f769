/-
  Programs there and back, on paper: what is written is read as it was. Own work; no program.
-/
import Derived.Test.YtgmdlhlmffdbhaaGreatDoorParZ
set_option linter.unusedSimpArgs false
set_option linter.unusedVariables false
set_option linter.unusedSectionVars false
namespace Go.L.Pa
open Go.L Go.L.Lx Go.L.Pg
/-! ### words as tokens -/
def nz (t : Tk) : Tk := { t with at' := 0 }
def nt (w : By) : Tk := ⟨1, w, 0, 0⟩
def sg (w : By) : Tk := ⟨3, w, 0, 0⟩
def dt (n : Int) : Tk := ⟨2, dec n.toNat, n.toNat, 0⟩
theorem nt_good {w : By} (h : isName w = true) : GoodT (nt w) := isName_good h
theorem dt_good {n : Int} (h : n ≤ 65535) : GoodT (dt n) := by
  have h1 := dec_ne n.toNat; have h2 := dec_dig n.toNat; have h3 := dec_num n.toNat
  rw [Nat.min_eq_left (by omega)] at h3
  cases hd : dec n.toNat with
  | nil => exact absurd hd h1
  | cons c r =>
    have ht : tok 0 (c :: r) = .ok ⟨2, c :: r, n.toNat, 0⟩ := by
      have := tok_dig (p := 0) (l := dec n.toNat) (r := []) h1 h2 rfl
      rw [List.append_nil, h3, hd, if_neg (by simp [nextIn]; omega)] at this
      exact this
    have := tok_good ht
    unfold dt; rw [hd]; exact this
theorem sg_good {w : By} (h : w = wOpen ∨ w = wShut ∨ w = wSemi) : GoodT (sg w) := by
  rcases h with rfl | rfl | rfl
  · exact tok_good (p := 0) (l := [123]) (by rw [tok_eq]; rfl)
  · exact tok_good (p := 0) (l := [125]) (by rw [tok_eq]; rfl)
  · exact tok_good (p := 0) (l := [59]) (by rw [tok_eq]; rfl)
theorem lex_joinS : ∀ (t : Tk) (T : List Tk) (q : Nat), (∀ u ∈ t :: T, GoodT u) → lex q (joinS ((t :: T).map (·.text))) = .ok (reAt q (t :: T))
  | t, [], q, h => by
    have := lex_front (h t List.mem_cons_self) q [] rfl
    rw [lex_nil] at this
    show lex q (t.text ++ []) = _
    rw [this]; rfl
  | t, u :: T, q, h => by
    have h1 := lex_joinS u T (q + t.text.length + 1) (fun x hx => h x (List.mem_cons_of_mem _ hx))
    have e : joinS ((t :: u :: T).map (·.text)) = t.text ++ (32 :: joinS ((u :: T).map (·.text))) := by
      show t.text ++ _ = _
      simp only [List.map_cons, joinS, List.flatMap_cons, List.cons_append]
    rw [e, lex_front (h t List.mem_cons_self) q _ rfl, lex_blank (by decide), h1]; rfl
theorem nz_reAt : ∀ (T : List Tk) (q : Nat), (reAt q T).map nz = T.map nz
  | [], _ => rfl
  | t :: T, q => by show nz _ :: (reAt _ T).map nz = _; rw [nz_reAt T]; rfl
/-! ### reading tokens that are known but for their places -/
theorem nz_cons {T X : List Tk} {x : Tk} (h : T.map nz = x :: X) : ∃ t r, T = t :: r ∧ nz t = x ∧ r.map nz = X := by
  cases T with
  | nil => cases h
  | cons t r => simp only [List.map_cons, List.cons.injEq] at h; exact ⟨t, r, rfl, h.1, h.2⟩
theorem isW_nz {w : By} {T X : List Tk} {x : Tk} (h : T.map nz = x :: X) : isW w T = (!decide (x.kind = 2) && decide (x.text = w)) := by
  obtain ⟨t, r, rfl, rfl, h2⟩ := nz_cons h; rfl
theorem tl_nz {T X : List Tk} {x : Tk} (h : T.map nz = x :: X) : T.tail.map nz = X := by
  obtain ⟨t, r, rfl, rfl, h2⟩ := nz_cons h; exact h2
theorem name_nz {T X : List Tk} {w : By} (h : T.map nz = nt w :: X) : nameP T = .ok w T.tail := by
  obtain ⟨t, r, rfl, h1, h2⟩ := nz_cons h
  have hk : t.kind = 1 := congrArg Tk.kind h1
  have ht : t.text = w := congrArg Tk.text h1
  show ((if t.kind = 1 then PR.ok t r else PR.bad (t :: r)).bind fun t r => PR.ok t.text r) = _
  rw [if_pos hk]; show PR.ok t.text r = _; rw [ht]; rfl
theorem num_nz {T X : List Tk} {n : Int} (h0 : 0 ≤ n) (h : T.map nz = dt n :: X) : numP T = .ok n T.tail := by
  obtain ⟨t, r, rfl, h1, h2⟩ := nz_cons h
  have hk : t.kind = 2 := congrArg Tk.kind h1
  have ht : t.n = n.toNat := congrArg Tk.n h1
  show ((if t.kind = 2 then PR.ok t r else PR.bad (t :: r)).bind fun t r => PR.ok (t.n : Int) r) = _
  rw [if_pos hk]; show PR.ok (t.n : Int) r = _; rw [ht]
  show PR.ok ((n.toNat : Nat) : Int) r = .ok n r
  rw [Int.toNat_of_nonneg h0]
theorem must_nz {T X : List Tk} {w : By} {x : Tk} (h : T.map nz = x :: X) (hw : isW w T = true) : mustP [w] T = .ok () T.tail := by
  unfold mustP; rw [if_pos hw]; rfl
theorem musts_nz {T X : List Tk} {w : By} (h : T.map nz = sg w :: X) : mustP [w] T = .ok () T.tail := must_nz h (by rw [isW_nz h]; simp [sg])
theorem mustn_nz {T X : List Tk} {w : By} (h : T.map nz = nt w :: X) : mustP [w] T = .ok () T.tail := must_nz h (by rw [isW_nz h]; simp [nt])
/-! ### what may be written -/
def has (ps : By) (c : UInt8) : Bool := decide (c ∈ ps)
def nameR (s : By) (b : Bool) : Bool := if b then isName s else decide (s = [])
def small (n : Int) : Bool := decide (0 ≤ n) && decide (n ≤ 65535)
def effOK (e : Eff) : Bool :=
  !decide ((verb e.do').1 = []) && nameR e.ref (has (verb e.do').2 114) && nameR e.slot (has (verb e.do').2 115) && nameR e.name (has (verb e.do').2 110)
  && (if has (verb e.do').2 100 then small e.delay else decide (e.delay = 0))
  && (if !has (verb e.do').2 118 || !decide (e.value = 2) then decide (e.n = 0) && (decide (e.value = 0) || (decide (e.value = 1) && has (verb e.do').2 118)) else small e.n)
def rowOK (r : Row) : Bool := (if decide (r.tag = []) then !r.only else isName r.tag) && (if r.only then small r.n else decide (r.n = 0)) && r.effs.all effOK
def casOK (c : Cas) : Bool := (decide (c.reason = []) || isName c.reason) && (decide (1 ≤ c.do') && decide (c.do' ≤ 4))
def staOK (s : Sta) : Bool := isName s.name && s.rows.all rowOK
def kndOK (k : Knd) : Bool := isName k.name && small k.limit && small k.within && k.cases.all casOK && k.states.all staOK
/-! ### tokens of what is written -/
def valT (e : Eff) : Tk := if e.value = 0 then nt wKeep else if e.value = 1 then nt wLess else dt e.n
def partT (e : Eff) (c : UInt8) : List Tk :=
  if c.toNat = 114 then [nt e.ref] else if c.toNat = 115 then [nt e.slot] else if c.toNat = 110 then [nt e.name] else if c.toNat = 100 then [dt e.delay] else if c.toNat = 118 then [valT e] else []
def effT (e : Eff) : List Tk := nt (verb e.do').1 :: (verb e.do').2.flatMap (partT e)
def effsT (E : List Eff) : List Tk := E.flatMap fun e => effT e ++ [sg wSemi]
def rowT (r : Row) : List Tk := (if r.tag = [] then [nt wAny] else [nt wOn, nt r.tag]) ++ (if r.only then [dt r.n] else []) ++ [sg wOpen] ++ effsT r.effs ++ [sg wShut]
def casT (c : Cas) : List Tk := (if c.reason = [] then [nt wElse] else [nt wCase, nt c.reason]) ++ [nt (dirs.getD (c.do' - 1).toNat [])] ++ [sg wSemi]
def staT (s : Sta) : List Tk := [nt wState, nt s.name, sg wOpen] ++ s.rows.flatMap rowT ++ [sg wShut]
def kndT (k : Knd) : List Tk := [nt wKind, nt k.name, sg wOpen, nt wLimit, dt k.limit, nt wIn, dt k.within, sg wSemi] ++ k.cases.flatMap casT ++ k.states.flatMap staT ++ [sg wShut]
def prgT (K : List Knd) : List Tk := K.flatMap kndT
/-! ### effects -/
theorem VB_at {i : Nat} (hi : i < 12) : VB[i]? = some (verb ((i + 1 : Nat) : Int)) := by
  unfold VB; rw [List.getElem?_map, List.getElem?_range hi]; rfl
theorem VB_ne : ∀ i < 12, ∀ j < i, (verb ((j + 1 : Nat) : Int)).1 ≠ (verb ((i + 1 : Nat) : Int)).1 := by decide
theorem VB_name : ∀ i < 12, isName (verb ((i + 1 : Nat) : Int)).1 = true := by decide
theorem effG_skip {i : Nat} (hi : i < 12) {T : List Tk} (hw : ∀ w : By, w ≠ (verb ((i + 1 : Nat) : Int)).1 → isW w T = false) : ∀ k, k ≤ i → effG (VB.drop (i - k)) (i - k) T = effG (VB.drop i) i T
  | 0, _ => rfl
  | k + 1, hk => by
    rw [← effG_skip hi hw k (by omega)]
    have hj : i - (k + 1) < 12 := by omega
    have e := VB_at hj
    obtain ⟨h1, h2⟩ := List.getElem?_eq_some_iff.1 e
    rw [List.drop_eq_getElem_cons h1, h2, show i - (k + 1) + 1 = i - k by omega]
    show (if isW (verb _).1 T then _ else _) = _
    rw [hw _ (by have := VB_ne i hi (i - (k + 1)) (by omega); rwa [show i - (k + 1) + 1 = i - k by omega] at this), if_neg (by decide), show i - (k + 1) + 1 = i - k by omega]
theorem effG_cons (q : By × By) (vs : List (By × By)) (i : Nat) (T : List Tk) : effG (q :: vs) i T = if isW q.1 T then partsP q.2 { e0 with do' := ((i + 1 : Nat) : Int) } T.tail else effG vs (i + 1) T := rfl
theorem effP_at {i : Nat} (hi : i < 12) {T X : List Tk} (h : T.map nz = nt (verb ((i + 1 : Nat) : Int)).1 :: X) : effP T = partsP (verb ((i + 1 : Nat) : Int)).2 { e0 with do' := ((i + 1 : Nat) : Int) } T.tail := by
  have hs := effG_skip hi (T := T) (fun w hw => by rw [isW_nz h]; show (true && decide ((verb _).1 = w)) = false; rw [decide_eq_false (fun e => hw e.symm)]; rfl) i (Nat.le_refl _)
  rw [Nat.sub_self, List.drop_zero] at hs
  show effG VB 0 T = _
  rw [hs]
  obtain ⟨h1, h2⟩ := List.getElem?_eq_some_iff.1 (VB_at hi)
  rw [List.drop_eq_getElem_cons h1, h2, effG_cons, isW_nz h, if_pos (by simp [nt])]
/-- one part of an effect read -/
theorem rd_r {e : Eff} {w : By} {T X : List Tk} (h : T.map nz = nt w :: X) : partP 114 e T = .ok { e with ref := w } T.tail := by
  unfold partP; rw [if_pos (by decide), name_nz h]; rfl
theorem rd_s {e : Eff} {w : By} {T X : List Tk} (h : T.map nz = nt w :: X) : partP 115 e T = .ok { e with slot := w } T.tail := by
  unfold partP; rw [if_neg (by decide), if_pos (by decide), name_nz h]; rfl
theorem rd_n {e : Eff} {w : By} {T X : List Tk} (h : T.map nz = nt w :: X) : partP 110 e T = .ok { e with name := w } T.tail := by
  unfold partP; rw [if_neg (by decide), if_neg (by decide), if_pos (by decide), name_nz h]; rfl
theorem rd_d {e : Eff} {n : Int} (h0 : 0 ≤ n) {T X : List Tk} (h : T.map nz = dt n :: X) : partP 100 e T = .ok { e with delay := n } T.tail := by
  unfold partP; rw [if_neg (by decide), if_neg (by decide), if_neg (by decide), if_pos (by decide), num_nz h0 h]; rfl
theorem wKK : isName wKeep = true ∧ isName wLess = true := by decide
theorem rd_v {e f : Eff} {T X : List Tk} (hv : f.value = 0 ∨ f.value = 1 ∨ (f.value = 2 ∧ 0 ≤ f.n)) (he : e.value = 0 ∧ e.n = 0) (hf : f.value ≠ 2 → f.n = 0) (h : T.map nz = valT f :: X) : partP 118 e T = .ok { e with value := f.value, n := f.n } T.tail := by
  unfold partP; rw [if_neg (by decide), if_neg (by decide), if_neg (by decide), if_neg (by decide), if_pos (by decide)]
  unfold valT at h; unfold valP
  rcases hv with hv | hv | ⟨hv, hn⟩
  · rw [if_pos hv] at h
    rw [isW_nz h, if_pos (by simp [nt]), hv, hf (by omega)]
    cases e; simp only at he; rw [he.1, he.2]
  · rw [if_neg (by omega), if_pos hv] at h
    rw [isW_nz h, if_neg (by simp [nt]), isW_nz h, if_pos (by simp [nt]), hv, hf (by omega)]
    cases e; simp only at he; rw [he.2]
  · rw [if_neg (by omega), if_neg (by omega)] at h
    rw [isW_nz h, if_neg (by simp [dt]), isW_nz h, if_neg (by simp [dt]), num_nz hn h, hv]; rfl
theorem effOK_inv {e : Eff} (ok : effOK e = true) : (verb e.do').1 ≠ [] ∧ (has (verb e.do').2 114 = true → isName e.ref = true) ∧ (has (verb e.do').2 114 = false → e.ref = []) ∧ (has (verb e.do').2 115 = true → isName e.slot = true) ∧ (has (verb e.do').2 115 = false → e.slot = []) ∧ (has (verb e.do').2 110 = true → isName e.name = true) ∧ (has (verb e.do').2 110 = false → e.name = []) ∧
    (has (verb e.do').2 100 = true → 0 ≤ e.delay ∧ e.delay ≤ 65535) ∧ (has (verb e.do').2 100 = false → e.delay = 0) ∧ (has (verb e.do').2 118 = false → e.value = 0 ∧ e.n = 0) ∧ (has (verb e.do').2 118 = true → (e.value = 0 ∧ e.n = 0) ∨ (e.value = 1 ∧ e.n = 0) ∨ (e.value = 2 ∧ 0 ≤ e.n ∧ e.n ≤ 65535)) := by
  unfold effOK nameR small at ok
  simp only [Bool.and_eq_true, Bool.not_eq_true', decide_eq_false_iff_not] at ok
  obtain ⟨⟨⟨⟨⟨h0, h1⟩, h2⟩, h3⟩, h4⟩, h5⟩ := ok
  refine ⟨h0, fun h => ?_, fun h => ?_, fun h => ?_, fun h => ?_, fun h => ?_, fun h => ?_, fun h => ?_, fun h => ?_, fun h => ?_, fun h => ?_⟩
  · rw [h] at h1; exact h1
  · rw [h] at h1; simpa using h1
  · rw [h] at h2; exact h2
  · rw [h] at h2; simpa using h2
  · rw [h] at h3; exact h3
  · rw [h] at h3; simpa using h3
  · rw [h] at h4; simpa using h4
  · rw [h] at h4; simpa using h4
  · rw [h] at h5; simp at h5; exact ⟨h5.2, h5.1⟩
  · rw [h] at h5
    by_cases hv : e.value = 2
    · rw [hv] at h5; simp at h5; exact .inr (.inr ⟨hv, h5⟩)
    · simp [hv] at h5
      rcases h5.2 with h6 | h6
      · exact .inl ⟨h6, h5.1⟩
      · exact .inr (.inl ⟨h6, h5.1⟩)
theorem verb_no {d : Int} (h : ¬ (1 ≤ d ∧ d ≤ 12)) : verb d = ([], []) := by
  unfold verb
  rw [if_neg (by omega), if_neg (by omega), if_neg (by omega), if_neg (by omega), if_neg (by omega), if_neg (by omega), if_neg (by omega), if_neg (by omega), if_neg (by omega), if_neg (by omega), if_neg (by omega), if_neg (by omega)]
theorem effOK_do {e : Eff} (ok : effOK e = true) : ∃ i : Nat, i < 12 ∧ e.do' = ((i + 1 : Nat) : Int) := by
  by_cases hx : 1 ≤ e.do' ∧ e.do' ≤ 12
  · exact ⟨(e.do' - 1).toNat, by omega, by omega⟩
  · exact absurd (by rw [verb_no hx]) (effOK_inv ok).1
theorem rd_eff {e : Eff} (ok : effOK e = true) {T X : List Tk} (h : T.map nz = effT e ++ X) : ∃ r, effP T = .ok e r ∧ r.map nz = X := by
  obtain ⟨i, hi, hdo⟩ := effOK_do ok
  obtain ⟨-, -, f1, -, f2, -, f3, f4, f5, f6, f7⟩ := effOK_inv ok
  unfold effT at h
  rw [hdo, List.cons_append] at h
  have h1 := effP_at hi h
  have h2 := tl_nz h
  rw [h1]; clear h h1 ok
  generalize T.tail = T at h2 ⊢
  obtain ⟨d, ref, slot, name, value, n, delay⟩ := e
  subst hdo
  simp only at f1 f2 f3 f4 f5 f6 f7
  have cases12 : i = 0 ∨ i = 1 ∨ i = 2 ∨ i = 3 ∨ i = 4 ∨ i = 5 ∨ i = 6 ∨ i = 7 ∨ i = 8 ∨ i = 9 ∨ i = 10 ∨ i = 11 := by omega
  rcases cases12 with rfl | rfl | rfl | rfl | rfl | rfl | rfl | rfl | rfl | rfl | rfl | rfl
  · obtain rfl : slot = [] := f2 (by decide)
    obtain rfl : delay = 0 := f5 (by decide)
    have h3 : T.map nz = nt ref :: nt name :: valT ⟨1, ref, [], name, value, n, 0⟩ :: X := h2
    show ∃ r, (partP 114 _ (T)).bind _ = _ ∧ _
    rw [rd_r h3, bind_ok]
    show ∃ r, (partP 110 _ (List.tail (T))).bind _ = _ ∧ _
    rw [rd_n (tl_nz h3), bind_ok]
    show ∃ r, (partP 118 _ (List.tail (List.tail (T)))).bind _ = _ ∧ _
    rw [rd_v (f := ⟨1, ref, [], name, value, n, 0⟩) (by have := f7 (by decide); simp only; omega) ⟨rfl, rfl⟩ (by have := f7 (by decide); simp only; omega) (tl_nz (tl_nz h3)), bind_ok]
    exact ⟨_, rfl, tl_nz (tl_nz (tl_nz h3))⟩
  · obtain rfl : ref = [] := f1 (by decide)
    obtain rfl : delay = 0 := f5 (by decide)
    obtain ⟨rfl, rfl⟩ := f6 (by decide)
    have h3 : T.map nz = nt slot :: nt name :: X := h2
    show ∃ r, (partP 115 _ (T)).bind _ = _ ∧ _
    rw [rd_s h3, bind_ok]
    show ∃ r, (partP 110 _ (List.tail (T))).bind _ = _ ∧ _
    rw [rd_n (tl_nz h3), bind_ok]
    exact ⟨_, rfl, tl_nz (tl_nz h3)⟩
  · obtain rfl : ref = [] := f1 (by decide)
    obtain rfl : slot = [] := f2 (by decide)
    obtain rfl : delay = 0 := f5 (by decide)
    obtain ⟨rfl, rfl⟩ := f6 (by decide)
    have h3 : T.map nz = nt name :: X := h2
    show ∃ r, (partP 110 _ (T)).bind _ = _ ∧ _
    rw [rd_n h3, bind_ok]
    exact ⟨_, rfl, tl_nz h3⟩
  · obtain rfl : ref = [] := f1 (by decide)
    obtain rfl : slot = [] := f2 (by decide)
    obtain rfl : name = [] := f3 (by decide)
    obtain rfl : delay = 0 := f5 (by decide)
    obtain ⟨rfl, rfl⟩ := f6 (by decide)
    have h3 : T.map nz = X := h2
    exact ⟨_, rfl, h3⟩
  · obtain rfl : ref = [] := f1 (by decide)
    obtain rfl : slot = [] := f2 (by decide)
    obtain rfl : name = [] := f3 (by decide)
    obtain rfl : delay = 0 := f5 (by decide)
    obtain ⟨rfl, rfl⟩ := f6 (by decide)
    have h3 : T.map nz = X := h2
    exact ⟨_, rfl, h3⟩
  · obtain rfl : slot = [] := f2 (by decide)
    obtain rfl : name = [] := f3 (by decide)
    obtain rfl : delay = 0 := f5 (by decide)
    obtain ⟨rfl, rfl⟩ := f6 (by decide)
    have h3 : T.map nz = nt ref :: X := h2
    show ∃ r, (partP 114 _ (T)).bind _ = _ ∧ _
    rw [rd_r h3, bind_ok]
    exact ⟨_, rfl, tl_nz h3⟩
  · obtain rfl : slot = [] := f2 (by decide)
    obtain rfl : name = [] := f3 (by decide)
    obtain rfl : delay = 0 := f5 (by decide)
    obtain ⟨rfl, rfl⟩ := f6 (by decide)
    have h3 : T.map nz = nt ref :: X := h2
    show ∃ r, (partP 114 _ (T)).bind _ = _ ∧ _
    rw [rd_r h3, bind_ok]
    exact ⟨_, rfl, tl_nz h3⟩
  · obtain rfl : ref = [] := f1 (by decide)
    obtain rfl : slot = [] := f2 (by decide)
    have h3 : T.map nz = dt delay :: nt name :: valT ⟨8, [], [], name, value, n, delay⟩ :: X := h2
    show ∃ r, (partP 100 _ (T)).bind _ = _ ∧ _
    rw [rd_d (f4 (by decide)).1 h3, bind_ok]
    show ∃ r, (partP 110 _ (List.tail (T))).bind _ = _ ∧ _
    rw [rd_n (tl_nz h3), bind_ok]
    show ∃ r, (partP 118 _ (List.tail (List.tail (T)))).bind _ = _ ∧ _
    rw [rd_v (f := ⟨8, [], [], name, value, n, delay⟩) (by have := f7 (by decide); simp only; omega) ⟨rfl, rfl⟩ (by have := f7 (by decide); simp only; omega) (tl_nz (tl_nz h3)), bind_ok]
    exact ⟨_, rfl, tl_nz (tl_nz (tl_nz h3))⟩
  · obtain rfl : ref = [] := f1 (by decide)
    obtain rfl : slot = [] := f2 (by decide)
    obtain rfl : delay = 0 := f5 (by decide)
    obtain ⟨rfl, rfl⟩ := f6 (by decide)
    have h3 : T.map nz = nt name :: X := h2
    show ∃ r, (partP 110 _ (T)).bind _ = _ ∧ _
    rw [rd_n h3, bind_ok]
    exact ⟨_, rfl, tl_nz h3⟩
  · obtain rfl : ref = [] := f1 (by decide)
    obtain rfl : name = [] := f3 (by decide)
    obtain rfl : delay = 0 := f5 (by decide)
    obtain ⟨rfl, rfl⟩ := f6 (by decide)
    have h3 : T.map nz = nt slot :: X := h2
    show ∃ r, (partP 115 _ (T)).bind _ = _ ∧ _
    rw [rd_s h3, bind_ok]
    exact ⟨_, rfl, tl_nz h3⟩
  · obtain rfl : ref = [] := f1 (by decide)
    obtain rfl : slot = [] := f2 (by decide)
    obtain rfl : name = [] := f3 (by decide)
    obtain rfl : delay = 0 := f5 (by decide)
    obtain ⟨rfl, rfl⟩ := f6 (by decide)
    have h3 : T.map nz = X := h2
    exact ⟨_, rfl, h3⟩
  · obtain rfl : ref = [] := f1 (by decide)
    obtain rfl : slot = [] := f2 (by decide)
    obtain rfl : delay = 0 := f5 (by decide)
    obtain ⟨rfl, rfl⟩ := f6 (by decide)
    have h3 : T.map nz = nt name :: X := h2
    show ∃ r, (partP 110 _ (T)).bind _ = _ ∧ _
    rw [rd_n h3, bind_ok]
    exact ⟨_, rfl, tl_nz h3⟩
theorem nt_ne {w v : By} {T X : List Tk} (h : T.map nz = nt w :: X) (hw : w ≠ v) : isW v T = false := by rw [isW_nz h]; simp [nt, hw]
theorem nt_is {w : By} {T X : List Tk} (h : T.map nz = nt w :: X) : isW w T = true := by rw [isW_nz h]; simp [nt]
theorem sg_ne {w v : By} {T X : List Tk} (h : T.map nz = sg w :: X) (hw : w ≠ v) : isW v T = false := by rw [isW_nz h]; simp [sg, hw]
theorem sg_is {w : By} {T X : List Tk} (h : T.map nz = sg w :: X) : isW w T = true := by rw [isW_nz h]; simp [sg]
theorem len_nz {T X : List Tk} (h : T.map nz = X) : T.length = X.length := by rw [← h, List.length_map]
theorem VB_shut : ∀ i < 12, (verb ((i + 1 : Nat) : Int)).1 ≠ wShut := by decide
theorem rd_effs : ∀ (es acc : List Eff) (f : Nat) (T X : List Tk), (∀ e ∈ es, effOK e = true) → T.length < f → T.map nz = effsT es ++ sg wShut :: X → ∃ r, effsP f acc T = .ok (acc ++ es) r ∧ r.map nz = X
  | [], acc, f + 1, T, X, _, _, h => by
    have h : T.map nz = sg wShut :: X := h
    refine ⟨T.tail, ?_, tl_nz h⟩
    unfold effsP; rw [sg_is h, if_pos rfl, List.append_nil]
  | e :: es, acc, f + 1, T, X, ok, hf, h => by
    have h : T.map nz = effT e ++ (sg wSemi :: (effsT es ++ sg wShut :: X)) := by rw [h]; unfold effsT; rw [List.flatMap_cons]; simp only [List.append_assoc, List.cons_append, List.nil_append]
    obtain ⟨i, hi, hdo⟩ := effOK_do (ok e List.mem_cons_self)
    have h1 : T.map nz = nt (verb e.do').1 :: ((verb e.do').2.flatMap (partT e) ++ (sg wSemi :: (effsT es ++ sg wShut :: X))) := h
    obtain ⟨r, hr, hm⟩ := rd_eff (ok e List.mem_cons_self) h
    have l1 := len_nz h; have l2 := len_nz hm
    simp only [List.length_append, List.length_cons] at l1 l2
    obtain ⟨r2, hr2, hm2⟩ := rd_effs es (acc ++ [e]) f r.tail X (fun x hx => ok x (List.mem_cons_of_mem _ hx)) (by rw [List.length_tail]; omega) (tl_nz hm)
    refine ⟨r2, ?_, hm2⟩
    unfold effsP; rw [nt_ne h1 (by rw [hdo]; exact VB_shut i hi), if_neg (by decide), hr, bind_ok, musts_nz hm, bind_ok, hr2, List.append_assoc]; rfl
theorem head_nz {T X : List Tk} {x : Tk} (h : T.map nz = x :: X) : headNum T = decide (x.kind = 2) := by
  obtain ⟨t, r, rfl, rfl, _⟩ := nz_cons h; rfl
theorem rd_rowX {w : Row} {es : List Eff} (ok : ∀ e ∈ es, effOK e = true) {T X : List Tk} (h : T.map nz = sg wOpen :: (effsT es ++ sg wShut :: X)) : ∃ r, rowX w T = .ok { w with effs := es } r ∧ r.map nz = X := by
  obtain ⟨r, hr, hm⟩ := rd_effs es [] (T.tail.length + 1) T.tail X ok (by omega) (tl_nz h)
  refine ⟨r, ?_, hm⟩
  unfold rowX; rw [musts_nz h, bind_ok, hr]; rfl
theorem small_iff {n : Int} : small n = true ↔ 0 ≤ n ∧ n ≤ 65535 := by unfold small; simp
theorem rowOK_inv {r : Row} (ok : rowOK r = true) : (r.tag = [] ∧ r.only = false ∨ isName r.tag = true ∧ r.tag ≠ []) ∧ (r.only = true ∧ 0 ≤ r.n ∧ r.n ≤ 65535 ∨ r.only = false ∧ r.n = 0) ∧ ∀ e ∈ r.effs, effOK e = true := by
  unfold rowOK at ok
  simp only [Bool.and_eq_true, List.all_eq_true] at ok
  obtain ⟨⟨h1, h2⟩, h3⟩ := ok
  refine ⟨?_, ?_, h3⟩
  · by_cases ht : r.tag = []
    · rw [if_pos (by simpa using ht)] at h1; exact .inl ⟨ht, by simpa using h1⟩
    · rw [if_neg (by simpa using ht)] at h1; exact .inr ⟨h1, ht⟩
  · cases ho : r.only with
    | true => rw [ho, if_pos rfl, small_iff] at h2; exact .inl ⟨rfl, h2⟩
    | false => rw [ho, if_neg (by decide)] at h2; exact .inr ⟨rfl, by simpa using h2⟩
theorem rd_row {w : Row} (ok : rowOK w = true) {T X : List Tk} (h : T.map nz = rowT w ++ X) : ∃ r, rowP T = .ok (Row.strip w) r ∧ r.map nz = X := by
  obtain ⟨h1, h2, h3⟩ := rowOK_inv ok
  obtain ⟨tag, only, n, ea, ec, es⟩ := w
  simp only at h1 h2 h3
  unfold rowT at h
  simp only [List.append_assoc, List.cons_append, List.nil_append] at h
  rcases h1 with ⟨rfl, rfl⟩ | ⟨h1, ht⟩
  · have hn : n = 0 := by rcases h2 with ⟨h, _⟩ | ⟨_, h⟩
                          · cases h
                          · exact h
    subst hn
    have h4 : T.map nz = nt wAny :: sg wOpen :: (effsT es ++ sg wShut :: X) := h
    obtain ⟨r, hr, hm⟩ := rd_rowX (w := r0) h3 (tl_nz h4)
    refine ⟨r, ?_, hm⟩
    unfold rowP; rw [nt_is h4, if_pos rfl, hr]; rfl
  · rw [if_neg ht] at h
    rcases h2 with ⟨rfl, h0, hn⟩ | ⟨rfl, rfl⟩
    · have h4 : T.map nz = nt wOn :: nt tag :: dt n :: sg wOpen :: (effsT es ++ sg wShut :: X) := h
      have h5 := tl_nz h4; have h6 := tl_nz h5; have h7 := tl_nz h6
      obtain ⟨r, hr, hm⟩ := rd_rowX (w := { r0 with tag := tag, only := true, n := n }) h3 h7
      refine ⟨r, ?_, hm⟩
      unfold rowP; rw [nt_ne h4 (by decide), if_neg (by decide), mustn_nz h4, bind_ok, name_nz h5, bind_ok]
      unfold rowN; rw [head_nz h6, if_pos (by show decide ((2 : Nat) = 2) = true; rfl), num_nz h0 h6, bind_ok, hr]; rfl
    · have h4 : T.map nz = nt wOn :: nt tag :: sg wOpen :: (effsT es ++ sg wShut :: X) := h
      have h5 := tl_nz h4; have h6 := tl_nz h5
      obtain ⟨r, hr, hm⟩ := rd_rowX (w := { r0 with tag := tag }) h3 h6
      refine ⟨r, ?_, hm⟩
      unfold rowP; rw [nt_ne h4 (by decide), if_neg (by decide), mustn_nz h4, bind_ok, name_nz h5, bind_ok]
      unfold rowN; rw [head_nz h6, if_neg (by decide), hr]; rfl
theorem rowT_head (w : Row) : ∃ v Y, rowT w = nt v :: Y ∧ v ≠ wShut := by
  unfold rowT; by_cases h : w.tag = []
  · rw [if_pos h]; exact ⟨wAny, _, rfl, by decide⟩
  · rw [if_neg h]; exact ⟨wOn, _, rfl, by decide⟩
theorem rd_rows : ∀ (es acc : List Row) (f : Nat) (T X : List Tk), (∀ e ∈ es, rowOK e = true) → T.length < f → T.map nz = es.flatMap rowT ++ sg wShut :: X → ∃ r, rowsP f acc T = .ok (acc ++ es.map Row.strip) r ∧ r.map nz = X
  | [], acc, f + 1, T, X, _, _, h => by
    have h : T.map nz = sg wShut :: X := h
    refine ⟨T.tail, ?_, tl_nz h⟩
    unfold rowsP; rw [sg_is h, if_pos rfl]; simp
  | e :: es, acc, f + 1, T, X, ok, hf, h => by
    have h : T.map nz = rowT e ++ (es.flatMap rowT ++ sg wShut :: X) := by rw [h, List.flatMap_cons, List.append_assoc]
    obtain ⟨v, Y, hY, hv⟩ := rowT_head e
    have h1 : T.map nz = nt v :: (Y ++ (es.flatMap rowT ++ sg wShut :: X)) := by rw [h, hY]; rfl
    obtain ⟨r, hr, hm⟩ := rd_row (ok e List.mem_cons_self) h
    have l1 := len_nz h1; have l2 := len_nz hm
    simp only [List.length_append, List.length_cons] at l1 l2
    obtain ⟨r2, hr2, hm2⟩ := rd_rows es (acc ++ [Row.strip e]) f r X (fun x hx => ok x (List.mem_cons_of_mem _ hx)) (by omega) hm
    refine ⟨r2, ?_, hm2⟩
    unfold rowsP; rw [nt_ne h1 hv, if_neg (by decide), hr, bind_ok, hr2, List.append_assoc]; rfl
theorem staOK_inv {s : Sta} (ok : staOK s = true) : isName s.name = true ∧ ∀ r ∈ s.rows, rowOK r = true := by
  unfold staOK at ok; simpa [List.all_eq_true] using ok
theorem rd_sta {s : Sta} (ok : staOK s = true) {T X : List Tk} (h : T.map nz = nt s.name :: sg wOpen :: (s.rows.flatMap rowT ++ sg wShut :: X)) : ∃ r, staP T = .ok (Sta.strip s) r ∧ r.map nz = X := by
  have h5 := tl_nz h; have h6 := tl_nz h5
  obtain ⟨r, hr, hm⟩ := rd_rows s.rows [] (T.tail.tail.length + 1) T.tail.tail X (staOK_inv ok).2 (by omega) h6
  refine ⟨r, ?_, hm⟩
  unfold staP; rw [name_nz h, bind_ok, musts_nz h5, bind_ok, hr, bind_ok]; rfl
theorem rd_stas : ∀ (es acc : List Sta) (f : Nat) (T X : List Tk), (∀ e ∈ es, staOK e = true) → T.length < f → T.map nz = es.flatMap staT ++ sg wShut :: X → ∃ r, stasP f acc T = .ok (acc ++ es.map Sta.strip) r ∧ r.map nz = sg wShut :: X
  | [], acc, f + 1, T, X, _, _, h => by
    have h : T.map nz = sg wShut :: X := h
    refine ⟨T, ?_, h⟩
    unfold stasP; rw [sg_ne h (by decide), if_neg (by decide)]; simp
  | e :: es, acc, f + 1, T, X, ok, hf, h => by
    have h : T.map nz = nt wState :: nt e.name :: sg wOpen :: (e.rows.flatMap rowT ++ sg wShut :: (es.flatMap staT ++ sg wShut :: X)) := by rw [h, List.flatMap_cons]; unfold staT; simp only [List.append_assoc, List.cons_append, List.nil_append]
    obtain ⟨r, hr, hm⟩ := rd_sta (ok e List.mem_cons_self) (tl_nz h)
    have l1 := len_nz h; have l2 := len_nz hm
    simp only [List.length_append, List.length_cons] at l1 l2
    obtain ⟨r2, hr2, hm2⟩ := rd_stas es (acc ++ [Sta.strip e]) f r X (fun x hx => ok x (List.mem_cons_of_mem _ hx)) (by omega) hm
    refine ⟨r2, ?_, hm2⟩
    unfold stasP; rw [nt_is h, if_pos rfl, hr, bind_ok, hr2, List.append_assoc]; rfl
theorem casOK_inv {c : Cas} (ok : casOK c = true) : (c.reason = [] ∨ isName c.reason = true) ∧ 1 ≤ c.do' ∧ c.do' ≤ 4 := by
  unfold casOK at ok; simpa using ok
theorem dirG_cons (w : By) (ws : List By) (i : Nat) (T : List Tk) : dirG (w :: ws) i T = if isW w T then (mustP [wSemi] T.tail).bind fun _ r => .ok ((i + 1 : Nat) : Int) r else dirG ws (i + 1) T := rfl
theorem rd_dir {d : Int} (h1 : 1 ≤ d) (h4 : d ≤ 4) {T X : List Tk} (h : T.map nz = nt (dirs.getD (d - 1).toNat []) :: sg wSemi :: X) : dirP T = .ok d T.tail.tail := by
  have hx : d = 1 ∨ d = 2 ∨ d = 3 ∨ d = 4 := by omega
  unfold dirP dirs
  rcases hx with rfl | rfl | rfl | rfl
  · replace h : T.map nz = nt [114, 101, 115, 117, 109, 101] :: sg wSemi :: X := h
    rw [dirG_cons, nt_is h, if_pos rfl, musts_nz (tl_nz h)]; rfl
  · replace h : T.map nz = nt [114, 101, 115, 116, 97, 114, 116] :: sg wSemi :: X := h
    rw [dirG_cons, nt_ne h (by decide), if_neg (by decide), dirG_cons, nt_is h, if_pos rfl, musts_nz (tl_nz h)]; rfl
  · replace h : T.map nz = nt [115, 116, 111, 112] :: sg wSemi :: X := h
    rw [dirG_cons, nt_ne h (by decide), if_neg (by decide), dirG_cons, nt_ne h (by decide), if_neg (by decide), dirG_cons, nt_is h, if_pos rfl, musts_nz (tl_nz h)]; rfl
  · replace h : T.map nz = nt [101, 115, 99, 97, 108, 97, 116, 101] :: sg wSemi :: X := h
    rw [dirG_cons, nt_ne h (by decide), if_neg (by decide), dirG_cons, nt_ne h (by decide), if_neg (by decide), dirG_cons, nt_ne h (by decide), if_neg (by decide), dirG_cons, nt_is h, if_pos rfl, musts_nz (tl_nz h)]; rfl
theorem casT_eq (c : Cas) : casT c = (if c.reason = [] then [nt wElse] else [nt wCase, nt c.reason]) ++ [nt (dirs.getD (c.do' - 1).toNat [])] ++ [sg wSemi] := rfl
theorem rd_cases : ∀ (es acc : List Cas) (f : Nat) (T X : List Tk), (∀ e ∈ es, casOK e = true) → T.length < f → T.map nz = es.flatMap casT ++ X → (∀ r, r.map nz = X → isW wCase r = false ∧ isW wElse r = false) → ∃ r, casesP f acc T = .ok (acc ++ es) r ∧ r.map nz = X
  | [], acc, f + 1, T, X, _, _, h, hX => by
    have h : T.map nz = X := h
    obtain ⟨x1, x2⟩ := hX T h
    refine ⟨T, ?_, h⟩
    unfold casesP; rw [x1, if_neg (by decide), x2, if_neg (by decide), List.append_nil]
  | e :: es, acc, f + 1, T, X, ok, hf, h, hX => by
    obtain ⟨o1, o2, o3⟩ := casOK_inv (ok e List.mem_cons_self)
    rw [List.flatMap_cons, List.append_assoc, casT_eq] at h
    by_cases hr : e.reason = []
    · have h : T.map nz = nt wElse :: nt (dirs.getD (e.do' - 1).toNat []) :: sg wSemi :: (es.flatMap casT ++ X) := by rw [h, if_pos hr]; simp only [List.append_assoc, List.cons_append, List.nil_append]
      have h5 := tl_nz h; have h6 := tl_nz h5
      have l1 := len_nz h; have l2 := len_nz (tl_nz h6)
      simp only [List.length_append, List.length_cons] at l1 l2
      obtain ⟨r2, hr2, hm2⟩ := rd_cases es (acc ++ [e]) f T.tail.tail.tail X (fun x hx => ok x (List.mem_cons_of_mem _ hx)) (by omega) (tl_nz h6) hX
      refine ⟨r2, ?_, hm2⟩
      unfold casesP; rw [nt_ne h (by decide), if_neg (by decide), nt_is h, if_pos rfl, rd_dir o2 o3 h5, bind_ok, show (⟨[], e.do'⟩ : Cas) = e by rw [← hr], hr2, List.append_assoc]; rfl
    · have h : T.map nz = nt wCase :: nt e.reason :: nt (dirs.getD (e.do' - 1).toNat []) :: sg wSemi :: (es.flatMap casT ++ X) := by rw [h, if_neg hr]; simp only [List.append_assoc, List.cons_append, List.nil_append]
      have h5 := tl_nz h; have h6 := tl_nz h5; have h7 := tl_nz h6
      have l1 := len_nz h; have l2 := len_nz (tl_nz h7)
      simp only [List.length_append, List.length_cons] at l1 l2
      obtain ⟨r2, hr2, hm2⟩ := rd_cases es (acc ++ [e]) f T.tail.tail.tail.tail X (fun x hx => ok x (List.mem_cons_of_mem _ hx)) (by omega) (tl_nz h7) hX
      refine ⟨r2, ?_, hm2⟩
      unfold casesP; rw [nt_is h, if_pos rfl, name_nz h5, bind_ok, rd_dir o2 o3 h6, bind_ok, hr2, List.append_assoc]; rfl
theorem kndOK_inv {k : Knd} (ok : kndOK k = true) : isName k.name = true ∧ (0 ≤ k.limit ∧ k.limit ≤ 65535) ∧ (0 ≤ k.within ∧ k.within ≤ 65535) ∧ (∀ c ∈ k.cases, casOK c = true) ∧ ∀ s ∈ k.states, staOK s = true := by
  unfold kndOK at ok
  simp only [Bool.and_eq_true, List.all_eq_true, small_iff] at ok
  exact ⟨ok.1.1.1.1, ok.1.1.1.2, ok.1.1.2, ok.1.2, ok.2⟩
theorem rd_knd {k : Knd} (ok : kndOK k = true) {T X : List Tk} (h : T.map nz = nt k.name :: sg wOpen :: nt wLimit :: dt k.limit :: nt wIn :: dt k.within :: sg wSemi :: (k.cases.flatMap casT ++ (k.states.flatMap staT ++ sg wShut :: X))) : ∃ r, kndP T = .ok (Knd.strip k) r ∧ r.map nz = X := by
  obtain ⟨o1, o2, o3, o4, o5⟩ := kndOK_inv ok
  have h1 := tl_nz h; have h2 := tl_nz h1; have h3 := tl_nz h2; have h4 := tl_nz h3; have h5 := tl_nz h4; have h6 := tl_nz h5; have h7 := tl_nz h6
  obtain ⟨r, hr, hm⟩ := rd_cases k.cases [] (T.tail.tail.tail.tail.tail.tail.tail.length + 1) _ _ o4 (by omega) h7 (fun r hr => by
    cases hS : k.states with
    | nil => rw [hS] at hr; have hr : r.map nz = sg wShut :: X := hr; exact ⟨sg_ne hr (by decide), sg_ne hr (by decide)⟩
    | cons s S => rw [hS, List.flatMap_cons] at hr; have hr : r.map nz = nt wState :: _ := hr; exact ⟨nt_ne hr (by decide), nt_ne hr (by decide)⟩)
  obtain ⟨r2, hr2, hm2⟩ := rd_stas k.states [] (r.length + 1) r X o5 (by omega) hm
  refine ⟨r2.tail, ?_, tl_nz hm2⟩
  have hlim : limP T.tail.tail = .ok (k.limit, k.within) T.tail.tail.tail.tail.tail.tail.tail := by
    unfold limP; rw [nt_is h2, if_pos rfl, num_nz o2.1 h3, bind_ok, mustn_nz h4, bind_ok, num_nz o3.1 h5, bind_ok, musts_nz h6]; rfl
  unfold kndP; rw [name_nz h, bind_ok, musts_nz h1, bind_ok, hlim, bind_ok, hr, bind_ok, hr2, bind_ok, musts_nz hm2]; rfl
theorem rd_knds : ∀ (K acc : List Knd) (f : Nat) (T : List Tk), (∀ k ∈ K, kndOK k = true) → T.length < f → T.map nz = prgT K → ∃ r, kndsP f acc T = .ok (acc ++ strip K) r
  | [], acc, f + 1, T, _, _, h => by
    have h : T.map nz = [] := h
    have : T = [] := by simpa using h
    subst this
    refine ⟨[], ?_⟩
    show PR.ok acc [] = _
    unfold strip; simp
  | k :: K, acc, f + 1, T, ok, hf, h => by
    have h : T.map nz = nt wKind :: nt k.name :: sg wOpen :: nt wLimit :: dt k.limit :: nt wIn :: dt k.within :: sg wSemi :: (k.cases.flatMap casT ++ (k.states.flatMap staT ++ sg wShut :: prgT K)) := by rw [h]; unfold prgT; rw [List.flatMap_cons]; unfold kndT; simp only [List.append_assoc, List.cons_append, List.nil_append]
    obtain ⟨r, hr, hm⟩ := rd_knd (ok k List.mem_cons_self) (tl_nz h)
    have l1 := len_nz h; have l2 := len_nz hm
    simp only [List.length_append, List.length_cons] at l1 l2
    obtain ⟨r2, hr2⟩ := rd_knds K (acc ++ [Knd.strip k]) f r (fun x hx => ok x (List.mem_cons_of_mem _ hx)) (by omega) hm
    refine ⟨r2, ?_⟩
    have hne : T.isEmpty = false := by cases T with
      | nil => cases h
      | cons _ _ => rfl
    unfold kndsP; rw [hne, if_neg (by decide), mustn_nz h, bind_ok, hr, bind_ok, hr2, List.append_assoc]; rfl
/-! ### tokens' texts are the words -/
abbrev tx (T : List Tk) : List By := T.map (·.text)
theorem tx_flat {α : Type} {f : α → List Tk} {g : α → List By} : ∀ {l : List α}, (∀ x ∈ l, tx (f x) = g x) → tx (l.flatMap f) = l.flatMap g
  | [], _ => rfl
  | x :: l, h => by
    rw [List.flatMap_cons, List.flatMap_cons]; unfold tx; rw [List.map_append]
    rw [show (f x).map (·.text) = g x from h x List.mem_cons_self, show (l.flatMap f).map (·.text) = l.flatMap g from tx_flat fun y hy => h y (List.mem_cons_of_mem _ hy)]
theorem dt_tx {n : Int} (h : 0 ≤ n) : (dt n).text = itoaB n := by unfold dt itoaB; rw [if_neg (by omega)]
theorem part_tx {e : Eff} (hd : has (verb e.do').2 100 = true → 0 ≤ e.delay) (hv : e.value ≠ 0 → e.value ≠ 1 → 0 ≤ e.n) : ∀ c ∈ (verb e.do').2, tx (partT e c) = partWs e c := fun c hc => by
  unfold partT partWs
  split
  · rfl
  split
  · rfl
  split
  · rfl
  split
  · rename_i h
    have h2 : has (verb e.do').2 100 = true := by
      have : c = 100 := UInt8.toNat_inj.1 h
      unfold has; simp [← this, hc]
    show [(dt e.delay).text] = _; rw [dt_tx (hd h2)]
  split
  · show [(valT e).text] = [valWs e]
    unfold valT valWs
    split
    · rfl
    · split
      · rfl
      · rename_i h1 h2; rw [dt_tx (hv h1 h2)]
  · rfl
theorem eff_tx {e : Eff} (ok : effOK e = true) : tx (effT e) = effWs e := by
  obtain ⟨i, hi, hdo⟩ := effOK_do ok
  obtain ⟨-, -, f1, -, f2, -, f3, f4, f5, f6, f7⟩ := effOK_inv ok
  unfold effT effWs; rw [if_neg (by omega)]
  show (nt _).text :: tx _ = _
  rw [tx_flat (part_tx (fun h => (f4 h).1) (fun h1 h2 => by
    cases hb : has (verb e.do').2 118 with
    | false => exact absurd (f6 hb).1 h1
    | true => rcases f7 hb with h | h | h
              · exact absurd h.1 h1
              · exact absurd h.1 h2
              · exact h.2.1))]
  rfl
theorem effs_tx {es : List Eff} (ok : ∀ e ∈ es, effOK e = true) : tx (effsT es) = effsWs es := by
  unfold effsT effsWs
  exact tx_flat fun e he => by unfold tx; rw [List.map_append, show (effT e).map (·.text) = effWs e from eff_tx (ok e he)]; rfl
theorem row_tx {r : Row} (ok : rowOK r = true) : tx (rowT r) = rowWs r := by
  obtain ⟨h1, h2, h3⟩ := rowOK_inv ok
  unfold rowT rowWs tx
  simp only [List.map_append]
  rw [show (effsT r.effs).map (·.text) = effsWs r.effs from effs_tx h3]
  have e1 : (if r.tag = [] then [nt wAny] else [nt wOn, nt r.tag]).map (·.text) = tagWs r := by unfold tagWs; split <;> rfl
  have e2 : (if r.only then [dt r.n] else []).map (·.text) = numWs r := by
    unfold numWs
    rcases h2 with ⟨ho, h0, _⟩ | ⟨ho, _⟩
    · rw [ho, if_pos rfl, if_pos rfl]; show [(dt r.n).text] = _; rw [dt_tx h0]
    · rw [ho, if_neg (by decide), if_neg (by decide)]; rfl
  rw [e1, e2]; rfl
theorem cas_tx {c : Cas} (ok : casOK c = true) : tx (casT c) = casWs c := by
  obtain ⟨h1, h2, h3⟩ := casOK_inv ok
  have e1 : (if c.reason = [] then [nt wElse] else [nt wCase, nt c.reason]).map (·.text) = hdWs c := by unfold hdWs; split <;> rfl
  have e2 : dirWs c.do' = [dirs.getD (c.do' - 1).toNat []] := by unfold dirWs; rw [if_pos ⟨h2, h3⟩]
  unfold casT casWs tx
  rw [e2, ← e1]
  simp only [List.map_append]; rfl
theorem sta_tx {s : Sta} (ok : staOK s = true) : tx (staT s) = staWs s := by
  unfold staT staWs tx
  simp only [List.map_append]
  rw [show (s.rows.flatMap rowT).map (·.text) = s.rows.flatMap rowWs from tx_flat fun r hr => row_tx ((staOK_inv ok).2 r hr)]; rfl
theorem knd_tx {k : Knd} (ok : kndOK k = true) : tx (kndT k) = kndWs k := by
  obtain ⟨o1, o2, o3, o4, o5⟩ := kndOK_inv ok
  unfold kndT kndWs topWs tx
  simp only [List.map_append]
  rw [show (k.cases.flatMap casT).map (·.text) = k.cases.flatMap casWs from tx_flat fun c hc => cas_tx (o4 c hc), show (k.states.flatMap staT).map (·.text) = k.states.flatMap staWs from tx_flat fun s hs => sta_tx (o5 s hs)]
  show [wKind, k.name, wOpen, wLimit, (dt k.limit).text, wIn, (dt k.within).text, wSemi] ++ _ ++ _ ++ _ = _
  rw [dt_tx o2.1, dt_tx o3.1]; rfl
theorem prg_tx {K : List Knd} (ok : ∀ k ∈ K, kndOK k = true) : tx (prgT K) = prgWs K := tx_flat fun k hk => knd_tx (ok k hk)
/-! all of them are tokens -/
def GZ (t : Tk) : Prop := GoodT t ∧ nz t = t
theorem nt_gz {w : By} (h : isName w = true) : GZ (nt w) := ⟨nt_good h, rfl⟩
theorem dt_gz {n : Int} (h : n ≤ 65535) : GZ (dt n) := ⟨dt_good h, rfl⟩
theorem sg_gz {w : By} (h : w = wOpen ∨ w = wShut ∨ w = wSemi) : GZ (sg w) := ⟨sg_good h, rfl⟩
theorem gd_flat {α : Type} {f : α → List Tk} {l : List α} (h : ∀ x ∈ l, ∀ t ∈ f x, GZ t) : ∀ t ∈ l.flatMap f, GZ t := fun t ht => by
  obtain ⟨x, hx, hm⟩ := List.mem_flatMap.1 ht; exact h x hx t hm
theorem gd_app {A B : List Tk} (h1 : ∀ t ∈ A, GZ t) (h2 : ∀ t ∈ B, GZ t) : ∀ t ∈ A ++ B, GZ t := fun t ht => by
  rcases List.mem_append.1 ht with h | h
  · exact h1 t h
  · exact h2 t h
theorem gd_cons {x : Tk} {B : List Tk} (h1 : GZ x) (h2 : ∀ t ∈ B, GZ t) : ∀ t ∈ x :: B, GZ t := fun t ht => by
  rcases List.mem_cons.1 ht with rfl | h
  · exact h1
  · exact h2 t h
theorem gd_nil : ∀ t ∈ ([] : List Tk), GZ t := fun t ht => by cases ht
theorem eff_gd {e : Eff} (ok : effOK e = true) : ∀ t ∈ effT e, GZ t := by
  obtain ⟨i, hi, hdo⟩ := effOK_do ok
  obtain ⟨-, g1, f1, g2, f2, g3, f3, f4, f5, f6, f7⟩ := effOK_inv ok
  unfold effT
  have hh : ∀ c ∈ (verb e.do').2, ∀ k : UInt8, c.toNat = k.toNat → has (verb e.do').2 k = true := fun c hc k hk => by
    have : c = k := UInt8.toNat_inj.1 hk
    unfold has; simp [← this, hc]
  refine gd_cons (nt_gz (by rw [hdo]; exact VB_name i hi)) (gd_flat fun c hc => ?_)
  unfold partT
  split
  · rename_i h; exact gd_cons (nt_gz (g1 (hh c hc 114 h))) gd_nil
  split
  · rename_i h; exact gd_cons (nt_gz (g2 (hh c hc 115 h))) gd_nil
  split
  · rename_i h; exact gd_cons (nt_gz (g3 (hh c hc 110 h))) gd_nil
  split
  · rename_i h; exact gd_cons (dt_gz (f4 (hh c hc 100 h)).2) gd_nil
  split
  · rename_i h
    have h7 := f7 (hh c hc 118 h)
    refine gd_cons ?_ gd_nil
    unfold valT
    split
    · exact nt_gz wKK.1
    · split
      · exact nt_gz wKK.2
      · exact dt_gz (by omega)
  · exact gd_nil
theorem effs_gd {es : List Eff} (ok : ∀ e ∈ es, effOK e = true) : ∀ t ∈ effsT es, GZ t := gd_flat fun e he => gd_app (eff_gd (ok e he)) (gd_cons (sg_gz (.inr (.inr rfl))) gd_nil)
theorem row_gd {r : Row} (ok : rowOK r = true) : ∀ t ∈ rowT r, GZ t := by
  obtain ⟨h1, h2, h3⟩ := rowOK_inv ok
  unfold rowT
  refine gd_app (gd_app (gd_app (gd_app ?_ ?_) (gd_cons (sg_gz (.inl rfl)) gd_nil)) (effs_gd h3)) (gd_cons (sg_gz (.inr (.inl rfl))) gd_nil)
  · rcases h1 with ⟨h, _⟩ | ⟨h, h'⟩
    · rw [if_pos h]; exact gd_cons (nt_gz (by decide)) gd_nil
    · rw [if_neg h']; exact gd_cons (nt_gz (by decide)) (gd_cons (nt_gz h) gd_nil)
  · rcases h2 with ⟨ho, h0, h9⟩ | ⟨ho, _⟩
    · rw [ho, if_pos rfl]; exact gd_cons (dt_gz h9) gd_nil
    · rw [ho, if_neg (by decide)]; exact gd_nil
theorem dir_name : ∀ i < 4, isName (dirs.getD i []) = true := by decide
theorem cas_gd {c : Cas} (ok : casOK c = true) : ∀ t ∈ casT c, GZ t := by
  obtain ⟨h1, h2, h3⟩ := casOK_inv ok
  unfold casT
  refine gd_app (gd_app ?_ (gd_cons (nt_gz (dir_name _ (by omega))) gd_nil)) (gd_cons (sg_gz (.inr (.inr rfl))) gd_nil)
  split
  · exact gd_cons (nt_gz (by decide)) gd_nil
  · rename_i h
    rcases h1 with h1 | h1
    · exact absurd h1 h
    · exact gd_cons (nt_gz (by decide)) (gd_cons (nt_gz h1) gd_nil)
theorem sta_gd {s : Sta} (ok : staOK s = true) : ∀ t ∈ staT s, GZ t := by
  obtain ⟨h1, h2⟩ := staOK_inv ok
  unfold staT
  exact gd_app (gd_app (gd_cons (nt_gz (by decide)) (gd_cons (nt_gz h1) (gd_cons (sg_gz (.inl rfl)) gd_nil))) (gd_flat fun r hr => row_gd (h2 r hr))) (gd_cons (sg_gz (.inr (.inl rfl))) gd_nil)
theorem knd_gd {k : Knd} (ok : kndOK k = true) : ∀ t ∈ kndT k, GZ t := by
  obtain ⟨o1, o2, o3, o4, o5⟩ := kndOK_inv ok
  unfold kndT
  refine gd_app (gd_app (gd_app ?_ (gd_flat fun c hc => cas_gd (o4 c hc))) (gd_flat fun s hs => sta_gd (o5 s hs))) (gd_cons (sg_gz (.inr (.inl rfl))) gd_nil)
  exact gd_cons (nt_gz (by decide)) (gd_cons (nt_gz o1) (gd_cons (sg_gz (.inl rfl)) (gd_cons (nt_gz (by decide)) (gd_cons (dt_gz o2.2) (gd_cons (nt_gz (by decide)) (gd_cons (dt_gz o3.2) (gd_cons (sg_gz (.inr (.inr rfl))) gd_nil)))))))
theorem prg_gd {K : List Knd} (ok : ∀ k ∈ K, kndOK k = true) : ∀ t ∈ prgT K, GZ t := gd_flat fun k hk => knd_gd (ok k hk)
/-- what is written is read as it was -/
theorem rd_prg {K : List Knd} (ok : ∀ k ∈ K, kndOK k = true) (hl : (joinS (prgWs K)).length ≤ 16384) : progP (joinS (prgWs K)) = .ok (strip K) := by
  have h1 : lexAll (joinS (prgWs K)) = .ok (reAt 0 (prgT K)) := by
    unfold lexAll; rw [if_neg (by omega), ← prg_tx ok]
    have hg := prg_gd ok
    cases hT : prgT K with
    | nil => exact lex_nil 0
    | cons t T => exact lex_joinS t T 0 (by rw [← hT]; exact fun t ht => (hg t ht).1)
  unfold progP; rw [h1]
  show progT _ (reAt 0 (prgT K)) = _
  unfold progT
  have hm : (reAt 0 (prgT K)).map nz = prgT K := by
    rw [nz_reAt]
    have hz : ∀ t ∈ prgT K, nz t = t := fun t ht => (prg_gd ok t ht).2
    exact (List.map_congr_left hz).trans (List.map_id _)
  obtain ⟨r, hr⟩ := rd_knds K [] _ _ ok (Nat.lt_succ_self _) hm
  rw [hr]; rfl
theorem rd_long {K : List Knd} (h : 16384 < (joinS (prgWs K)).length) : progP (joinS (prgWs K)) = .error (5, 0) := by
  unfold progP lexAll; rw [if_pos h]
/-! ### what is read may be written, and is not much longer -/
def GG (T : List Tk) : Prop := ∀ t ∈ T, GoodT t
theorem GG.suf {r T : List Tk} (h : GG T) (s : Suf r T) : GG r := fun t ht => h t (s.mem t ht)
theorem GG.tl {T : List Tk} (h : GG T) : GG T.tail := h.suf (.tail T)
def wlT (T : List Tk) : Nat := wl (tx T)
theorem wlT_cons (t : Tk) (T : List Tk) : wlT (t :: T) = t.text.length + 1 + wlT T := rfl
theorem good_cases {t : Tk} (h : GoodT t) : (t.kind = 1 ∧ isName t.text = true) ∨ (t.kind = 2 ∧ (∀ c ∈ t.text, isDig c = true) ∧ t.n = num t.text ∧ t.n ≤ 65535) ∨ t.kind = 3 := by
  obtain ⟨h1, c, s, h2, h3, h4⟩ := h
  have h5 := h1 0 [] rfl
  rw [List.append_nil, h2] at h5
  rcases tok_cases h5 with ⟨g1, g2, g3⟩ | ⟨g1, g2, g3, g4, g5⟩ | ⟨g1, g2, g3, g4⟩
  · refine .inl ⟨congrArg Tk.kind g3, ?_⟩
    have g4 : t.text = (c :: s).take (spn isIn (c :: s)) := h2.trans (congrArg Tk.text g3)
    have g5 := congrArg List.length g4
    rw [List.length_take, Nat.min_eq_left (spn_le _ _), h2] at g5
    rw [h2]
    simp only [isName, Bool.and_eq_true, decide_eq_true_eq]
    exact ⟨⟨g1, g5.symm⟩, by omega⟩
  · refine .inr (.inl ⟨congrArg Tk.kind g5, ?_, ?_, ?_⟩)
    · have g6 : t.text = (c :: s).take (spn isDig (c :: s)) := h2.trans (congrArg Tk.text g5)
      rw [g6]; exact spn_take isDig (c :: s)
    · have g6 : t.text = (c :: s).take (spn isDig (c :: s)) := h2.trans (congrArg Tk.text g5)
      have g7 : t.n = num ((c :: s).take (spn isDig (c :: s))) := congrArg Tk.n g5
      rw [g7, ← g6]
    · have g7 : t.n = num ((c :: s).take (spn isDig (c :: s))) := congrArg Tk.n g5
      omega
  · exact .inr (.inr (congrArg Tk.kind g4))
theorem numG_lt : ∀ (l : By) (a : Nat), (∀ c ∈ l, isDig c = true) → numG a l < (a + 1) * 10 ^ l.length
  | [], a, _ => by show a < (a + 1) * 1; omega
  | c :: l, a, h => by
    have hc := h c List.mem_cons_self
    unfold isDig at hc; simp only [decide_eq_true_eq] at hc
    have h1 := numG_lt l (min (10 * a + (c.toNat - 48)) 65536) (fun x hx => h x (List.mem_cons_of_mem _ hx))
    have h2 : (min (10 * a + (c.toNat - 48)) 65536 + 1) * 10 ^ l.length ≤ (10 * (a + 1)) * 10 ^ l.length := Nat.mul_le_mul_right _ (by omega)
    show numG (min (10 * a + (c.toNat - 48)) 65536) l < _
    rw [List.length_cons, Nat.pow_succ]
    have h3 : (10 * (a + 1)) * 10 ^ l.length = (a + 1) * (10 ^ l.length * 10) := by rw [Nat.mul_comm 10 (a + 1), Nat.mul_assoc, Nat.mul_comm 10]
    omega
theorem take_inv {k : Nat} {T r : List Tk} {t : Tk} (h : takeP k T = .ok t r) : T = t :: r ∧ t.kind = k := by
  cases T with
  | nil => cases h
  | cons x T =>
    replace h : (if x.kind = k then PR.ok x T else PR.bad (x :: T)) = .ok t r := h
    split at h
    · cases h; exact ⟨rfl, by assumption⟩
    · cases h
theorem name_inv {T r : List Tk} {w : By} (g : GG T) (h : nameP T = .ok w r) : isName w = true ∧ w.length + 1 + wlT r = wlT T ∧ GG r := by
  obtain ⟨t, r', h1, h2⟩ := bind_inv h
  obtain ⟨rfl, hk⟩ := take_inv h1
  cases h2
  refine ⟨?_, rfl, g.tl⟩
  rcases good_cases (g t List.mem_cons_self) with h | h | h
  · exact h.2
  · omega
  · omega
theorem num_inv {T r : List Tk} {n : Int} (g : GG T) (h : numP T = .ok n r) : (0 ≤ n ∧ n ≤ 65535) ∧ (itoaB n).length + 1 + wlT r ≤ wlT T ∧ GG r := by
  obtain ⟨t, r', h1, h2⟩ := bind_inv h
  obtain ⟨rfl, hk⟩ := take_inv h1
  cases h2
  obtain ⟨hg, c, s, ht, _, _⟩ := g t List.mem_cons_self
  rcases good_cases (g t List.mem_cons_self) with h | ⟨_, h2, h3, h4⟩ | h
  · omega
  · refine ⟨⟨by omega, by omega⟩, ?_, g.tl⟩
    have h5 := numG_lt t.text 0 h2
    rw [wlT_cons]
    have h6 : (dec t.n).length ≤ t.text.length := by
      obtain ⟨k, hk⟩ : ∃ k, t.text.length = k + 1 := ⟨s.length, by rw [ht]; rfl⟩
      rw [hk]
      refine dec_len _ _ ?_
      rw [h3, ← hk]
      have : num t.text = numG 0 t.text := rfl
      omega
    have h7 : itoaB (t.n : Int) = dec t.n := by unfold itoaB; rw [if_neg (by omega)]; rfl
    rw [h7]; omega
  · omega
theorem isW_inv {T : List Tk} {w : By} (h : isW w T = true) : w.length + 1 + wlT T.tail = wlT T := by
  cases T with
  | nil => cases h
  | cons t T =>
    have : t.text = w := by
      unfold isW at h; simp only [Bool.and_eq_true, decide_eq_true_eq] at h; exact h.2
    rw [wlT_cons, this]; rfl
theorem must_inv {T r : List Tk} {w : By} {u : Unit} (h : mustP [w] T = .ok u r) : isW w T = true ∧ r = T.tail := by
  unfold mustP at h
  split at h
  · unfold mustP at h; cases h; exact ⟨by assumption, rfl⟩
  · cases h
/-! effects -/
theorem i_r {e f : Eff} {T r : List Tk} (g : GG T) (h : partP 114 e T = .ok f r) : ∃ w, isName w = true ∧ f = { e with ref := w } ∧ w.length + 1 + wlT r ≤ wlT T ∧ GG r := by
  unfold partP at h; rw [if_pos (by decide)] at h
  obtain ⟨w, r', h1, h2⟩ := bind_inv h
  obtain ⟨a, b, c⟩ := name_inv g h1
  cases h2; exact ⟨w, a, rfl, Nat.le_of_eq b, c⟩
theorem i_s {e f : Eff} {T r : List Tk} (g : GG T) (h : partP 115 e T = .ok f r) : ∃ w, isName w = true ∧ f = { e with slot := w } ∧ w.length + 1 + wlT r ≤ wlT T ∧ GG r := by
  unfold partP at h; rw [if_neg (by decide), if_pos (by decide)] at h
  obtain ⟨w, r', h1, h2⟩ := bind_inv h
  obtain ⟨a, b, c⟩ := name_inv g h1
  cases h2; exact ⟨w, a, rfl, Nat.le_of_eq b, c⟩
theorem i_n {e f : Eff} {T r : List Tk} (g : GG T) (h : partP 110 e T = .ok f r) : ∃ w, isName w = true ∧ f = { e with name := w } ∧ w.length + 1 + wlT r ≤ wlT T ∧ GG r := by
  unfold partP at h; rw [if_neg (by decide), if_neg (by decide), if_pos (by decide)] at h
  obtain ⟨w, r', h1, h2⟩ := bind_inv h
  obtain ⟨a, b, c⟩ := name_inv g h1
  cases h2; exact ⟨w, a, rfl, Nat.le_of_eq b, c⟩
theorem i_d {e f : Eff} {T r : List Tk} (g : GG T) (h : partP 100 e T = .ok f r) : ∃ n, (0 ≤ n ∧ n ≤ 65535) ∧ f = { e with delay := n } ∧ (itoaB n).length + 1 + wlT r ≤ wlT T ∧ GG r := by
  unfold partP at h; rw [if_neg (by decide), if_neg (by decide), if_neg (by decide), if_pos (by decide)] at h
  obtain ⟨w, r', h1, h2⟩ := bind_inv h
  obtain ⟨a, b, c⟩ := num_inv g h1
  cases h2; exact ⟨w, a, rfl, b, c⟩
theorem i_v {e f : Eff} {T r : List Tk} (g : GG T) (he : e.value = 0 ∧ e.n = 0) (h : partP 118 e T = .ok f r) : ∃ v n, ((v = 0 ∧ n = 0) ∨ (v = 1 ∧ n = 0) ∨ (v = 2 ∧ 0 ≤ n ∧ n ≤ 65535)) ∧ f = { e with value := v, n := n } ∧ (valWs f).length + 1 + wlT r ≤ wlT T ∧ GG r := by
  unfold partP at h; rw [if_neg (by decide), if_neg (by decide), if_neg (by decide), if_neg (by decide), if_pos (by decide)] at h
  unfold valP at h
  split at h
  · rename_i hw; cases h
    refine ⟨0, 0, .inl ⟨rfl, rfl⟩, ?_, ?_, g.tl⟩
    · cases e; simp only at he; rw [he.1, he.2]
    · have := isW_inv hw; unfold valWs; rw [if_pos he.1]; omega
  · split at h
    · rename_i hw; cases h
      refine ⟨1, 0, .inr (.inl ⟨rfl, rfl⟩), ?_, ?_, g.tl⟩
      · cases e; simp only at he; rw [he.2]
      · have := isW_inv hw; unfold valWs; rw [if_neg (by simp), if_pos rfl]; omega
    · obtain ⟨w, r', h1, h2⟩ := bind_inv h
      obtain ⟨a, b, c⟩ := num_inv g h1
      cases h2
      refine ⟨2, w, .inr (.inr ⟨rfl, a.1, a.2⟩), rfl, ?_, c⟩
      unfold valWs; rw [if_neg (by simp), if_neg (by simp)]; exact b
theorem effG_inv {T r : List Tk} {e : Eff} : ∀ (m k : Nat), k + m = 12 → effG (VB.drop k) k T = .ok e r → ∃ i, i < 12 ∧ isW (verb ((i + 1 : Nat) : Int)).1 T = true ∧ partsP (verb ((i + 1 : Nat) : Int)).2 { e0 with do' := ((i + 1 : Nat) : Int) } T.tail = .ok e r
  | 0, k, hk, h => by
    obtain rfl : k = 12 := by omega
    rw [List.drop_eq_nil_of_le (by rw [VB_len]; omega)] at h; cases h
  | m + 1, k, hk, h => by
    obtain ⟨h1, h2⟩ := List.getElem?_eq_some_iff.1 (VB_at (i := k) (by omega))
    rw [List.drop_eq_getElem_cons h1, h2, effG_cons] at h
    split at h
    · rename_i hw; exact ⟨k, by omega, hw, h⟩
    · exact effG_inv m (k + 1) (by omega) h
theorem eff_inv {T r : List Tk} {e : Eff} (g : GG T) (h : effP T = .ok e r) : effOK e = true ∧ wl (effWs e) + wlT r ≤ wlT T ∧ GG r := by
  have h0 : effG (VB.drop 0) 0 T = .ok e r := h
  obtain ⟨i, hi, hw, hp⟩ := effG_inv 12 0 rfl h0
  have hz := isW_inv hw
  replace g := g.tl
  clear h h0 hw
  generalize wlT T = N at hz ⊢
  generalize T.tail = T at hz hp g
  have cases12 : i = 0 ∨ i = 1 ∨ i = 2 ∨ i = 3 ∨ i = 4 ∨ i = 5 ∨ i = 6 ∨ i = 7 ∨ i = 8 ∨ i = 9 ∨ i = 10 ∨ i = 11 := by omega
  rcases cases12 with rfl | rfl | rfl | rfl | rfl | rfl | rfl | rfl | rfl | rfl | rfl | rfl
  · replace hz : 4 + 1 + wlT T = N := hz
    replace hp : (partP 114 _ _).bind (partsP [110, 118]) = .ok e r := hp
    obtain ⟨e0, r0, p0, hp⟩ := bind_inv hp
    obtain ⟨a, ha, rfl, s0, g0⟩ := i_r g p0
    replace hp : (partP 110 _ _).bind (partsP [118]) = .ok e r := hp
    obtain ⟨e1, r1, p1, hp⟩ := bind_inv hp
    obtain ⟨c, hc, rfl, s1, g1⟩ := i_n g0 p1
    replace hp : (partP 118 _ _).bind (partsP []) = .ok e r := hp
    obtain ⟨e2, r2, p2, hp⟩ := bind_inv hp
    obtain ⟨v, n, hv, rfl, s2, g2⟩ := i_v g1 ⟨rfl, rfl⟩ p2
    replace hp : PR.ok _ _ = PR.ok e r := hp
    cases hp
    refine ⟨?_, ?_, g2⟩
    · rcases hv with ⟨rfl, rfl⟩ | ⟨rfl, rfl⟩ | ⟨rfl, hv1, hv2⟩
      · simp [effOK, verb, has, nameR, small, e0, ha, hc]
      · simp [effOK, verb, has, nameR, small, e0, ha, hc]
      · simp [effOK, verb, has, nameR, small, e0, hv1, hv2, ha, hc]
    · unfold effWs; rw [if_neg (by show ¬ (((1 : Nat) : Int) < 1 ∨ 12 < ((1 : Nat) : Int)); omega)]
      show 4 + 1 + (a.length + 1 + (c.length + 1 + ((valWs _).length + 1 + 0))) + _ ≤ _
      omega
  · replace hz : 5 + 1 + wlT T = N := hz
    replace hp : (partP 115 _ _).bind (partsP [110]) = .ok e r := hp
    obtain ⟨e0, r0, p0, hp⟩ := bind_inv hp
    obtain ⟨b, hb, rfl, s0, g0⟩ := i_s g p0
    replace hp : (partP 110 _ _).bind (partsP []) = .ok e r := hp
    obtain ⟨e1, r1, p1, hp⟩ := bind_inv hp
    obtain ⟨c, hc, rfl, s1, g1⟩ := i_n g0 p1
    replace hp : PR.ok _ _ = PR.ok e r := hp
    cases hp
    refine ⟨?_, ?_, g1⟩
    · simp [effOK, verb, has, nameR, small, e0, hb, hc]
    · unfold effWs; rw [if_neg (by show ¬ (((2 : Nat) : Int) < 1 ∨ 12 < ((2 : Nat) : Int)); omega)]
      show 5 + 1 + (b.length + 1 + (c.length + 1 + 0)) + _ ≤ _
      omega
  · replace hz : 6 + 1 + wlT T = N := hz
    replace hp : (partP 110 _ _).bind (partsP []) = .ok e r := hp
    obtain ⟨e0, r0, p0, hp⟩ := bind_inv hp
    obtain ⟨c, hc, rfl, s0, g0⟩ := i_n g p0
    replace hp : PR.ok _ _ = PR.ok e r := hp
    cases hp
    refine ⟨?_, ?_, g0⟩
    · simp [effOK, verb, has, nameR, small, e0, hc]
    · unfold effWs; rw [if_neg (by show ¬ (((3 : Nat) : Int) < 1 ∨ 12 < ((3 : Nat) : Int)); omega)]
      show 6 + 1 + (c.length + 1 + 0) + _ ≤ _
      omega
  · replace hz : 5 + 1 + wlT T = N := hz
    replace hp : PR.ok _ _ = PR.ok e r := hp
    cases hp
    refine ⟨?_, ?_, g⟩
    · simp [effOK, verb, has, nameR, small, e0]
    · unfold effWs; rw [if_neg (by show ¬ (((4 : Nat) : Int) < 1 ∨ 12 < ((4 : Nat) : Int)); omega)]
      show 5 + 1 + (0) + _ ≤ _
      omega
  · replace hz : 7 + 1 + wlT T = N := hz
    replace hp : PR.ok _ _ = PR.ok e r := hp
    cases hp
    refine ⟨?_, ?_, g⟩
    · simp [effOK, verb, has, nameR, small, e0]
    · unfold effWs; rw [if_neg (by show ¬ (((5 : Nat) : Int) < 1 ∨ 12 < ((5 : Nat) : Int)); omega)]
      show 7 + 1 + (0) + _ ≤ _
      omega
  · replace hz : 5 + 1 + wlT T = N := hz
    replace hp : (partP 114 _ _).bind (partsP []) = .ok e r := hp
    obtain ⟨e0, r0, p0, hp⟩ := bind_inv hp
    obtain ⟨a, ha, rfl, s0, g0⟩ := i_r g p0
    replace hp : PR.ok _ _ = PR.ok e r := hp
    cases hp
    refine ⟨?_, ?_, g0⟩
    · simp [effOK, verb, has, nameR, small, e0, ha]
    · unfold effWs; rw [if_neg (by show ¬ (((6 : Nat) : Int) < 1 ∨ 12 < ((6 : Nat) : Int)); omega)]
      show 5 + 1 + (a.length + 1 + 0) + _ ≤ _
      omega
  · replace hz : 7 + 1 + wlT T = N := hz
    replace hp : (partP 114 _ _).bind (partsP []) = .ok e r := hp
    obtain ⟨e0, r0, p0, hp⟩ := bind_inv hp
    obtain ⟨a, ha, rfl, s0, g0⟩ := i_r g p0
    replace hp : PR.ok _ _ = PR.ok e r := hp
    cases hp
    refine ⟨?_, ?_, g0⟩
    · simp [effOK, verb, has, nameR, small, e0, ha]
    · unfold effWs; rw [if_neg (by show ¬ (((7 : Nat) : Int) < 1 ∨ 12 < ((7 : Nat) : Int)); omega)]
      show 7 + 1 + (a.length + 1 + 0) + _ ≤ _
      omega
  · replace hz : 5 + 1 + wlT T = N := hz
    replace hp : (partP 100 _ _).bind (partsP [110, 118]) = .ok e r := hp
    obtain ⟨e0, r0, p0, hp⟩ := bind_inv hp
    obtain ⟨d, hd, rfl, s0, g0⟩ := i_d g p0
    replace hp : (partP 110 _ _).bind (partsP [118]) = .ok e r := hp
    obtain ⟨e1, r1, p1, hp⟩ := bind_inv hp
    obtain ⟨c, hc, rfl, s1, g1⟩ := i_n g0 p1
    replace hp : (partP 118 _ _).bind (partsP []) = .ok e r := hp
    obtain ⟨e2, r2, p2, hp⟩ := bind_inv hp
    obtain ⟨v, n, hv, rfl, s2, g2⟩ := i_v g1 ⟨rfl, rfl⟩ p2
    replace hp : PR.ok _ _ = PR.ok e r := hp
    cases hp
    refine ⟨?_, ?_, g2⟩
    · rcases hv with ⟨rfl, rfl⟩ | ⟨rfl, rfl⟩ | ⟨rfl, hv1, hv2⟩
      · simp [effOK, verb, has, nameR, small, e0, hc, hd.1, hd.2]
      · simp [effOK, verb, has, nameR, small, e0, hc, hd.1, hd.2]
      · simp [effOK, verb, has, nameR, small, e0, hv1, hv2, hc, hd.1, hd.2]
    · unfold effWs; rw [if_neg (by show ¬ (((8 : Nat) : Int) < 1 ∨ 12 < ((8 : Nat) : Int)); omega)]
      show 5 + 1 + ((itoaB d).length + 1 + (c.length + 1 + ((valWs _).length + 1 + 0))) + _ ≤ _
      omega
  · replace hz : 6 + 1 + wlT T = N := hz
    replace hp : (partP 110 _ _).bind (partsP []) = .ok e r := hp
    obtain ⟨e0, r0, p0, hp⟩ := bind_inv hp
    obtain ⟨c, hc, rfl, s0, g0⟩ := i_n g p0
    replace hp : PR.ok _ _ = PR.ok e r := hp
    cases hp
    refine ⟨?_, ?_, g0⟩
    · simp [effOK, verb, has, nameR, small, e0, hc]
    · unfold effWs; rw [if_neg (by show ¬ (((9 : Nat) : Int) < 1 ∨ 12 < ((9 : Nat) : Int)); omega)]
      show 6 + 1 + (c.length + 1 + 0) + _ ≤ _
      omega
  · replace hz : 4 + 1 + wlT T = N := hz
    replace hp : (partP 115 _ _).bind (partsP []) = .ok e r := hp
    obtain ⟨e0, r0, p0, hp⟩ := bind_inv hp
    obtain ⟨b, hb, rfl, s0, g0⟩ := i_s g p0
    replace hp : PR.ok _ _ = PR.ok e r := hp
    cases hp
    refine ⟨?_, ?_, g0⟩
    · simp [effOK, verb, has, nameR, small, e0, hb]
    · unfold effWs; rw [if_neg (by show ¬ (((10 : Nat) : Int) < 1 ∨ 12 < ((10 : Nat) : Int)); omega)]
      show 4 + 1 + (b.length + 1 + 0) + _ ≤ _
      omega
  · replace hz : 4 + 1 + wlT T = N := hz
    replace hp : PR.ok _ _ = PR.ok e r := hp
    cases hp
    refine ⟨?_, ?_, g⟩
    · simp [effOK, verb, has, nameR, small, e0]
    · unfold effWs; rw [if_neg (by show ¬ (((11 : Nat) : Int) < 1 ∨ 12 < ((11 : Nat) : Int)); omega)]
      show 4 + 1 + (0) + _ ≤ _
      omega
  · replace hz : 4 + 1 + wlT T = N := hz
    replace hp : (partP 110 _ _).bind (partsP []) = .ok e r := hp
    obtain ⟨e0, r0, p0, hp⟩ := bind_inv hp
    obtain ⟨c, hc, rfl, s0, g0⟩ := i_n g p0
    replace hp : PR.ok _ _ = PR.ok e r := hp
    cases hp
    refine ⟨?_, ?_, g0⟩
    · simp [effOK, verb, has, nameR, small, e0, hc]
    · unfold effWs; rw [if_neg (by show ¬ (((12 : Nat) : Int) < 1 ∨ 12 < ((12 : Nat) : Int)); omega)]
      show 4 + 1 + (c.length + 1 + 0) + _ ≤ _
      omega
theorem wl1 (w : By) : wl [w] = w.length + 1 := rfl
theorem effs_inv : ∀ (f : Nat) (acc es : List Eff) (T r : List Tk), GG T → effsP f acc T = .ok es r → ∃ new, es = acc ++ new ∧ (∀ e ∈ new, effOK e = true) ∧ wl (effsWs new) + 2 + wlT r ≤ wlT T ∧ GG r
  | 0, _, _, _, _, _, h => by cases h
  | f + 1, acc, es, T, r, g, h => by
    unfold effsP at h
    split at h
    · rename_i hw; cases h
      refine ⟨[], by simp, fun e he => by (cases he), ?_, g.tl⟩
      have := isW_inv hw
      show 0 + 2 + _ ≤ _
      have e1 : wShut.length = 1 := rfl
      omega
    · obtain ⟨e, r1, h1, h⟩ := bind_inv h
      obtain ⟨u, r2, h2, h⟩ := bind_inv h
      obtain ⟨a1, a2, a3⟩ := eff_inv g h1
      obtain ⟨b1, rfl⟩ := must_inv h2
      have b2 := isW_inv b1
      obtain ⟨new, c1, c2, c3, c4⟩ := effs_inv f (acc ++ [e]) es r1.tail r a3.tl h
      refine ⟨e :: new, by rw [c1, List.append_assoc]; rfl, fun x hx => ?_, ?_, c4⟩
      · rcases List.mem_cons.1 hx with rfl | hx
        · exact a1
        · exact c2 x hx
      · unfold effsWs at c3 ⊢; rw [List.flatMap_cons, wl_app, wl_app, wl1]
        have e1 : wSemi.length = 1 := rfl
        omega
theorem rowX_inv {w v : Row} {T r : List Tk} (g : GG T) (h : rowX w T = .ok v r) : ∃ es, v = { w with effs := es } ∧ (∀ e ∈ es, effOK e = true) ∧ 2 + wl (effsWs es) + 2 + wlT r ≤ wlT T ∧ GG r := by
  obtain ⟨u, r1, h1, h⟩ := bind_inv h
  obtain ⟨b1, rfl⟩ := must_inv h1
  have b2 := isW_inv b1
  obtain ⟨es, r2, h2, h⟩ := bind_inv h
  obtain ⟨new, c1, c2, c3, c4⟩ := effs_inv _ _ _ _ _ g.tl h2
  cases h
  rw [List.nil_append] at c1; subst c1
  have e1 : wOpen.length = 1 := rfl
  exact ⟨_, rfl, c2, by omega, c4⟩
theorem isName_ne {l : By} (h : isName l = true) : l ≠ [] := by rintro rfl; cases h
theorem row_inv {w : Row} {T r : List Tk} (g : GG T) (h : rowP T = .ok w r) : rowOK w = true ∧ wl (rowWs w) + wlT r ≤ wlT T ∧ GG r := by
  have fin : ∀ (v : Row) (es : List Eff) (N : Nat), v.effs = es → wl (tagWs v) + wl (numWs v) + (2 + wl (effsWs es) + 2) + wlT r ≤ N → wl (rowWs v) + wlT r ≤ N := fun v es N he hn => by
    unfold rowWs; rw [wl_app, wl_app, wl_app, wl_app, he, wl1, wl1]
    have e1 : wOpen.length = 1 := rfl
    have e2 : wShut.length = 1 := rfl
    omega
  unfold rowP at h
  split at h
  · rename_i hw
    have hz := isW_inv hw
    obtain ⟨es, rfl, c2, c3, c4⟩ := rowX_inv g.tl h
    refine ⟨?_, ?_, c4⟩
    · simp only [rowOK, r0, Bool.and_eq_true, List.all_eq_true]
      exact ⟨by decide, c2⟩
    · refine fin _ es _ rfl ?_
      show 3 + 1 + 0 + 0 + _ + _ ≤ _
      have e1 : wAny.length = 3 := rfl
      omega
  · obtain ⟨u, r1, h1, h⟩ := bind_inv h
    obtain ⟨b1, rfl⟩ := must_inv h1
    have b2 := isW_inv b1
    obtain ⟨tag, r2, h2, h⟩ := bind_inv h
    obtain ⟨t1, t2, t3⟩ := name_inv g.tl h2
    have e1 : wOn.length = 2 := rfl
    have ht : tag ≠ [] := isName_ne t1
    unfold rowN at h
    split at h
    · obtain ⟨n, r3, h3, h⟩ := bind_inv h
      obtain ⟨n1, n2, n3⟩ := num_inv t3 h3
      obtain ⟨es, rfl, c2, c3, c4⟩ := rowX_inv n3 h
      refine ⟨?_, ?_, c4⟩
      · simp only [rowOK, r0, Bool.and_eq_true, List.all_eq_true]
        refine ⟨⟨?_, ?_⟩, c2⟩
        · rw [if_neg (by simpa using ht)]; exact t1
        · simp only [if_true]; exact small_iff.2 n1
      · refine fin _ es _ rfl ?_
        unfold tagWs numWs
        rw [if_neg ht, if_pos rfl]
        show 2 + 1 + (tag.length + 1 + 0) + ((itoaB n).length + 1 + 0) + _ + _ ≤ _
        omega
    · obtain ⟨es, rfl, c2, c3, c4⟩ := rowX_inv t3 h
      refine ⟨?_, ?_, c4⟩
      · simp only [rowOK, r0, Bool.and_eq_true, List.all_eq_true]
        refine ⟨⟨?_, ?_⟩, c2⟩
        · rw [if_neg (by simpa using ht)]; exact t1
        · decide
      · refine fin _ es _ rfl ?_
        unfold tagWs numWs
        rw [if_neg ht, if_neg (by show ¬ (false = true); decide)]
        show 2 + 1 + (tag.length + 1 + 0) + 0 + _ + _ ≤ _
        omega
theorem rows_inv : ∀ (f : Nat) (acc es : List Row) (T r : List Tk), GG T → rowsP f acc T = .ok es r → ∃ new, es = acc ++ new ∧ (∀ e ∈ new, rowOK e = true) ∧ wl (new.flatMap rowWs) + 2 + wlT r ≤ wlT T ∧ GG r
  | 0, _, _, _, _, _, h => by cases h
  | f + 1, acc, es, T, r, g, h => by
    unfold rowsP at h
    split at h
    · rename_i hw; cases h
      refine ⟨[], by simp, fun e he => by (cases he), ?_, g.tl⟩
      have := isW_inv hw
      show 0 + 2 + _ ≤ _
      have e1 : wShut.length = 1 := rfl
      omega
    · obtain ⟨e, r1, h1, h⟩ := bind_inv h
      obtain ⟨a1, a2, a3⟩ := row_inv g h1
      obtain ⟨new, c1, c2, c3, c4⟩ := rows_inv f (acc ++ [e]) es r1 r a3 h
      refine ⟨e :: new, by rw [c1, List.append_assoc]; rfl, fun x hx => ?_, ?_, c4⟩
      · rcases List.mem_cons.1 hx with rfl | hx
        · exact a1
        · exact c2 x hx
      · rw [List.flatMap_cons, wl_app]; omega
theorem sta_inv {s : Sta} {T r : List Tk} (g : GG T) (h : staP T = .ok s r) : staOK s = true ∧ wl (staWs s) + wlT r ≤ 6 + wlT T ∧ GG r := by
  obtain ⟨nm, r1, h1, h⟩ := bind_inv h
  obtain ⟨t1, t2, t3⟩ := name_inv g h1
  obtain ⟨u, r2, h2, h⟩ := bind_inv h
  obtain ⟨b1, rfl⟩ := must_inv h2
  have b2 := isW_inv b1
  obtain ⟨R, r3, h3, h⟩ := bind_inv h
  obtain ⟨new, c1, c2, c3, c4⟩ := rows_inv _ _ _ _ _ t3.tl h3
  cases h
  rw [List.nil_append] at c1; subst c1
  refine ⟨?_, ?_, c4⟩
  · simp only [staOK, Bool.and_eq_true, List.all_eq_true]; exact ⟨t1, c2⟩
  · unfold staWs; rw [wl_app, wl_app, wl1]
    have e1 : wOpen.length = 1 := rfl
    show 5 + 1 + (nm.length + 1 + (1 + 1 + 0)) + wl (R.flatMap rowWs) + (1 + 1) + _ ≤ _
    omega
theorem stas_inv : ∀ (f : Nat) (acc es : List Sta) (T r : List Tk), GG T → stasP f acc T = .ok es r → ∃ new, es = acc ++ new ∧ (∀ e ∈ new, staOK e = true) ∧ wl (new.flatMap staWs) + wlT r ≤ wlT T ∧ GG r
  | 0, _, _, _, _, _, h => by cases h
  | f + 1, acc, es, T, r, g, h => by
    unfold stasP at h
    split at h
    · rename_i hw
      have hz := isW_inv hw
      obtain ⟨e, r1, h1, h⟩ := bind_inv h
      obtain ⟨a1, a2, a3⟩ := sta_inv g.tl h1
      obtain ⟨new, c1, c2, c3, c4⟩ := stas_inv f (acc ++ [e]) es r1 r a3 h
      have e1 : wState.length = 5 := rfl
      refine ⟨e :: new, by rw [c1, List.append_assoc]; rfl, fun x hx => ?_, ?_, c4⟩
      · rcases List.mem_cons.1 hx with rfl | hx
        · exact a1
        · exact c2 x hx
      · rw [List.flatMap_cons, wl_app]; omega
    · cases h
      exact ⟨[], by simp, fun e he => by (cases he), by show 0 + _ ≤ _; omega, g⟩
theorem dir_inv {d : Int} {T r : List Tk} (g : GG T) (h : dirP T = .ok d r) : (1 ≤ d ∧ d ≤ 4) ∧ wl (dirWs d) + 2 + wlT r ≤ wlT T ∧ GG r := by
  have key : ∀ (i : Nat) (w : By), i < 4 → dirs[i]? = some w → isW w T = true → ((mustP [wSemi] T.tail).bind fun _ r => PR.ok ((i + 1 : Nat) : Int) r) = .ok d r → (1 ≤ d ∧ d ≤ 4) ∧ wl (dirWs d) + 2 + wlT r ≤ wlT T ∧ GG r := fun i w hi hw h1 h2 => by
    obtain ⟨u, r2, h3, h4⟩ := bind_inv h2
    obtain ⟨b1, rfl⟩ := must_inv h3
    have b2 := isW_inv b1
    have b3 := isW_inv h1
    cases h4
    have e1 : wSemi.length = 1 := rfl
    refine ⟨by omega, ?_, g.tl.tl⟩
    unfold dirWs; rw [if_pos (by omega), show (((i + 1 : Nat) : Int) - 1).toNat = i by omega, List.getD_eq_getElem?_getD, hw, wl1]
    show w.length + 1 + _ + _ ≤ _
    omega
  unfold dirP dirs at h
  rw [dirG_cons] at h
  split at h
  · exact key 0 _ (by omega) rfl (by assumption) h
  rw [dirG_cons] at h
  split at h
  · exact key 1 _ (by omega) rfl (by assumption) h
  rw [dirG_cons] at h
  split at h
  · exact key 2 _ (by omega) rfl (by assumption) h
  rw [dirG_cons] at h
  split at h
  · exact key 3 _ (by omega) rfl (by assumption) h
  · cases h
theorem cases_inv : ∀ (f : Nat) (acc es : List Cas) (T r : List Tk), GG T → casesP f acc T = .ok es r → ∃ new, es = acc ++ new ∧ (∀ e ∈ new, casOK e = true) ∧ wl (new.flatMap casWs) + wlT r ≤ wlT T ∧ GG r
  | 0, _, _, _, _, _, h => by cases h
  | f + 1, acc, es, T, r, g, h => by
    unfold casesP at h
    split at h
    · rename_i hw
      have hz := isW_inv hw
      obtain ⟨nm, r1, h1, h⟩ := bind_inv h
      obtain ⟨t1, t2, t3⟩ := name_inv g.tl h1
      obtain ⟨d, r2, h2, h⟩ := bind_inv h
      obtain ⟨d1, d2, d3⟩ := dir_inv t3 h2
      obtain ⟨new, c1, c2, c3, c4⟩ := cases_inv f (acc ++ [⟨nm, d⟩]) es r2 r d3 h
      have e1 : wCase.length = 4 := rfl
      refine ⟨⟨nm, d⟩ :: new, by rw [c1, List.append_assoc]; rfl, fun x hx => ?_, ?_, c4⟩
      · rcases List.mem_cons.1 hx with rfl | hx
        · simp [casOK, t1, d1.1, d1.2]
        · exact c2 x hx
      · rw [List.flatMap_cons, wl_app]; unfold casWs hdWs
        rw [if_neg (isName_ne t1), wl_app, wl_app, wl1]
        show 4 + 1 + (nm.length + 1 + 0) + _ + (1 + 1) + _ + _ ≤ _
        show _ + wl (dirWs d) + _ + wl (new.flatMap casWs) + _ ≤ _
        omega
    · split at h
      · rename_i hw
        have hz := isW_inv hw
        obtain ⟨d, r2, h2, h⟩ := bind_inv h
        obtain ⟨d1, d2, d3⟩ := dir_inv g.tl h2
        obtain ⟨new, c1, c2, c3, c4⟩ := cases_inv f (acc ++ [⟨[], d⟩]) es r2 r d3 h
        have e1 : wElse.length = 4 := rfl
        refine ⟨⟨[], d⟩ :: new, by rw [c1, List.append_assoc]; rfl, fun x hx => ?_, ?_, c4⟩
        · rcases List.mem_cons.1 hx with rfl | hx
          · simp [casOK, d1.1, d1.2]
          · exact c2 x hx
        · rw [List.flatMap_cons, wl_app]; unfold casWs hdWs
          rw [if_pos rfl, wl_app, wl_app, wl1]
          show 4 + 1 + wl (dirWs d) + (1 + 1) + wl (new.flatMap casWs) + _ ≤ _
          omega
      · cases h
        exact ⟨[], by simp, fun e he => by (cases he), by show 0 + _ ≤ _; omega, g⟩
theorem lim_inv {ab : Int × Int} {T r : List Tk} (g : GG T) (h : limP T = .ok ab r) : (0 ≤ ab.1 ∧ ab.1 ≤ 65535) ∧ (0 ≤ ab.2 ∧ ab.2 ≤ 65535) ∧ 6 + ((itoaB ab.1).length + 1) + 3 + ((itoaB ab.2).length + 1) + 2 + wlT r ≤ 15 + wlT T ∧ GG r := by
  unfold limP at h
  split at h
  · rename_i hw
    have hz := isW_inv hw
    obtain ⟨a, r1, h1, h⟩ := bind_inv h
    obtain ⟨t1, t2, t3⟩ := num_inv g.tl h1
    obtain ⟨u, r2, h2, h⟩ := bind_inv h
    obtain ⟨b1, rfl⟩ := must_inv h2
    have b2 := isW_inv b1
    obtain ⟨b, r3, h3, h⟩ := bind_inv h
    obtain ⟨s1, s2, s3⟩ := num_inv t3.tl h3
    obtain ⟨u, r4, h4, h⟩ := bind_inv h
    obtain ⟨c1, rfl⟩ := must_inv h4
    have c2 := isW_inv c1
    cases h
    have e1 : wLimit.length = 5 := rfl
    have e2 : wIn.length = 2 := rfl
    have e3 : wSemi.length = 1 := rfl
    exact ⟨t1, s1, by show 6 + ((itoaB a).length + 1) + 3 + ((itoaB b).length + 1) + 2 + _ ≤ _; omega, s3.tl⟩
  · cases h
    have i0 : (itoaB 0).length = 1 := by unfold itoaB; rw [if_neg (by omega)]; show (dec 0).length = 1; rw [dec]; rfl
    have i1 : (itoaB 1).length = 1 := by unfold itoaB; rw [if_neg (by omega)]; show (dec 1).length = 1; rw [dec]; rfl
    refine ⟨by simp, by simp, ?_, g⟩
    show 6 + ((itoaB 0).length + 1) + 3 + ((itoaB 1).length + 1) + 2 + _ ≤ _
    omega
theorem knd_inv {k : Knd} {T r : List Tk} (g : GG T) (h : kndP T = .ok k r) : kndOK k = true ∧ wl (kndWs k) + wlT r ≤ 20 + wlT T ∧ GG r ∧ 6 + wlT r ≤ wlT T := by
  obtain ⟨nm, r1, h1, h⟩ := bind_inv h
  obtain ⟨t1, t2, t3⟩ := name_inv g h1
  obtain ⟨u, r2, h2, h⟩ := bind_inv h
  obtain ⟨b1, rfl⟩ := must_inv h2
  have b2 := isW_inv b1
  obtain ⟨ab, r3, h3, h⟩ := bind_inv h
  obtain ⟨l1, l2, l3, l4⟩ := lim_inv t3.tl h3
  obtain ⟨C, r4, h4, h⟩ := bind_inv h
  obtain ⟨nc, c1, c2, c3, c4⟩ := cases_inv _ _ _ _ _ l4 h4
  obtain ⟨S, r5, h5, h⟩ := bind_inv h
  obtain ⟨ns, s1, s2, s3, s4⟩ := stas_inv _ _ _ _ _ c4 h5
  obtain ⟨u, r6, h6, h⟩ := bind_inv h
  obtain ⟨d1, rfl⟩ := must_inv h6
  have d2 := isW_inv d1
  cases h
  rw [List.nil_append] at c1 s1; subst c1 s1
  have e1 : wOpen.length = 1 := rfl
  have e2 : wShut.length = 1 := rfl
  have hnm : 1 ≤ nm.length := by
    have := isName_ne t1
    cases nm with
    | nil => exact absurd rfl this
    | cons _ _ => simp
  have hmono : wlT r3 ≤ wlT r1.tail := by
    have hlv := lv_lim r1.tail
    rw [h3] at hlv
    have hd : ∀ (A : List Tk) (n : Nat), wlT (A.drop n) ≤ wlT A := fun A => by
      induction A with
      | nil => intro n; simp
      | cons x A ih => intro n; cases n with
        | zero => simp
        | succ n => rw [List.drop_succ_cons, wlT_cons]; have := ih n; omega
    have := hd r1.tail (r1.tail.length - r3.length)
    rw [← hlv.2] at this; exact this
  refine ⟨?_, ?_, s4.tl, by omega⟩
  · simp only [kndOK, Bool.and_eq_true, List.all_eq_true]
    exact ⟨⟨⟨⟨t1, small_iff.2 l1⟩, small_iff.2 l2⟩, c2⟩, s2⟩
  · unfold kndWs topWs; rw [wl_app, wl_app, wl_app, wl1]
    show 4 + 1 + (nm.length + 1 + (1 + 1 + (5 + 1 + ((itoaB ab.1).length + 1 + (2 + 1 + ((itoaB ab.2).length + 1 + (1 + 1 + 0))))))) + wl (C.flatMap casWs) + wl (S.flatMap staWs) + (1 + 1) + _ ≤ _
    omega
theorem knds_inv : ∀ (f : Nat) (acc es : List Knd) (T r : List Tk), GG T → kndsP f acc T = .ok es r → ∃ new, es = acc ++ new ∧ (∀ e ∈ new, kndOK e = true) ∧ wl (prgWs new) ≤ 15 * new.length + wlT T ∧ 11 * new.length ≤ wlT T
  | 0, _, _, _, _, _, h => by cases h
  | f + 1, acc, es, T, r, g, h => by
    unfold kndsP at h
    split at h
    · cases h
      exact ⟨[], by simp, fun e he => by (cases he), by show 0 ≤ _; omega, by simp⟩
    · obtain ⟨u, r1, h1, h⟩ := bind_inv h
      obtain ⟨b1, rfl⟩ := must_inv h1
      have b2 := isW_inv b1
      obtain ⟨k, r2, h2, h⟩ := bind_inv h
      obtain ⟨a1, a2, a3, a4⟩ := knd_inv g.tl h2
      obtain ⟨new, c1, c2, c3, c4⟩ := knds_inv f (acc ++ [k]) es r2 r a3 h
      have e1 : wKind.length = 4 := rfl
      refine ⟨k :: new, by rw [c1, List.append_assoc]; rfl, fun x hx => ?_, ?_, ?_⟩
      · rcases List.mem_cons.1 hx with rfl | hx
        · exact a1
        · exact c2 x hx
      · unfold prgWs at c3 ⊢; rw [List.flatMap_cons, wl_app, List.length_cons]; omega
      · rw [List.length_cons]; omega
theorem wlT_sum : ∀ T : List Tk, wlT T = sumL T + T.length
  | [] => rfl
  | t :: T => by rw [wlT_cons, wlT_sum T]; show _ = t.text.length + sumL T + (T.length + 1); omega
/-- what is read is right, and its text no longer than five times what was read -/
theorem prg_inv {l : By} {K : List Knd} (h : progP l = .ok K) : (∀ k ∈ K, kndOK k = true) ∧ wl (prgWs K) ≤ 5 * l.length ∧ l.length ≤ 16384 := by
  unfold progP at h
  cases hT : lexAll l with
  | error e => rw [hT] at h; cases h
  | ok T =>
    rw [hT] at h
    replace h : progT l.length T = .ok K := h
    obtain ⟨hl, hx⟩ : l.length ≤ 16384 ∧ lex 0 l = .ok T := by
      unfold lexAll at hT
      split at hT
      · cases hT
      · exact ⟨by omega, hT⟩
    have hg : GG T := lex_good hx
    have hp := pl_sum T 0 l (lex_pl _ _ _ hx)
    unfold progT at h
    cases hk : kndsP (T.length + 1) [] T with
    | bad r => rw [hk] at h; cases h
    | ok K' r =>
      rw [hk] at h
      replace h : Except.ok K' = .ok K := h
      cases h
      obtain ⟨new, c1, c2, c3, c4⟩ := knds_inv _ _ _ _ _ hg hk
      rw [List.nil_append] at c1; subst c1
      have := wlT_sum T
      exact ⟨c2, by omega, by omega⟩
end Go.L.Pa
