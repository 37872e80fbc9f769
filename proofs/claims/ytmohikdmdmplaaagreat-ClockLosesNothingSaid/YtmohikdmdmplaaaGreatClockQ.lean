/-
  The clock on paper: operations that are done at once, one behind the other. Own work; no program.
-/
import Derived.Test.YtmohikdmdmplaaaGreatClockP
set_option linter.unusedSimpArgs false
set_option linter.unusedVariables false
set_option linter.unusedSectionVars false
namespace Go.L.Clk
open Go.L Go.L.Ring Go.L.Whl Go.L.Post
theorem tnB (b n t : Nat) : tn b n (t : Int) = b + 2 + 2 * (t % n) := by
  unfold tn; rw [← Int.natCast_emod, Int.toNat_natCast]
theorem wtB (n t : Nat) (h : t < 1000000) : wt n (t : Int) = ((2 * (t / n) : Nat) : Int) := by
  unfold wt
  rw [← Int.natCast_ediv]
  have h1 : t / n ≤ t := Nat.div_le_self t n
  have e : (((t / n : Nat) : Int) * 2) = ((2 * (t / n) : Nat) : Int) := by omega
  rw [e]; exact wr_u64 (by omega)
theorem uwB (k : Nat) (h : k < 1000000000) : uw (k : Int) = k := wr_u64 (by omega)
theorem mod_ne {n h i j : Nat} (h1 : i < j) (h2 : j < i + n) : (h + i) % n ≠ (h + j) % n := fun e => by
  have hn : 0 < n := by omega
  have a := Nat.div_add_mod (h + i) n
  have b := Nat.div_add_mod (h + j) n
  rw [e] at a
  rcases Nat.lt_trichotomy ((h + i) / n) ((h + j) / n) with x | x | x
  · have : n * ((h + i) / n + 1) ≤ n * ((h + j) / n) := Nat.mul_le_mul_left n x
    rw [Nat.mul_add] at this; omega
  · rw [x] at a; omega
  · have : n * ((h + j) / n + 1) ≤ n * ((h + i) / n) := Nat.mul_le_mul_left n x
    rw [Nat.mul_add] at this; omega
/-- a ring that nobody is at: the values in it, how many were taken -/
structure RQ (b n : Nat) (L : List Int) (h : Nat) (q : List Int) : Prop where
  n1 : 1 ≤ n
  n64 : n ≤ 64
  len : b + 2 + 2 * n ≤ L.length
  ql : q.length ≤ n
  hi : h + q.length < 900000
  tl : L.getD b 0 = ((h + q.length : Nat) : Int)
  hd : L.getD (b + 1) 0 = ((h : Nat) : Int)
  tk : ∀ i, i < q.length → L.getD (b + 2 + 2 * ((h + i) % n)) 0 = ((2 * ((h + i) / n) + 1 : Nat) : Int) ∧ L.getD (b + 2 + 2 * ((h + i) % n) + 1) 0 = q.getD i 0
  fr : ∀ i, q.length ≤ i → i < n → L.getD (b + 2 + 2 * ((h + i) % n)) 0 = ((2 * ((h + i) / n) : Nat) : Int)
theorem RQ.zero {b n k : Nat} (h1 : 1 ≤ n) (h2 : n ≤ 64) (hk : b + 2 + 2 * n ≤ k) : RQ b n (List.replicate k 0) 0 [] := by
  have z : ∀ i, (List.replicate k (0 : Int)).getD i 0 = 0 := fun i => by
    rw [List.getD_eq_getElem?_getD, List.getElem?_replicate]; split <;> rfl
  refine ⟨h1, h2, by simpa using hk, Nat.zero_le _, by decide, z _, z _, fun i hi => absurd hi (Nat.not_lt_zero i), fun i _ hi => ?_⟩
  rw [z, Nat.zero_add, Nat.div_eq_of_lt hi]; rfl
theorem RQ.other {b n h : Nat} {L : List Int} {q : List Int} (Q : RQ b n L h q) {i : Nat} (hi : i < b) (x : Int) : RQ b n (L.set i x) h q := by
  have hl := Q.len
  have g : ∀ j, b ≤ j → (L.set i x).getD j 0 = L.getD j 0 := fun j hj => by rw [getD_set _ _ _ _ _ (by omega), if_neg (by omega)]
  exact ⟨Q.n1, Q.n64, by rw [List.length_set]; exact hl, Q.ql, Q.hi, by rw [g _ (by omega)]; exact Q.tl, by rw [g _ (by omega)]; exact Q.hd,
    fun j hj => by rw [g _ (by omega), g _ (by omega)]; exact Q.tk j hj, fun j h1 h2 => by rw [g _ (by omega)]; exact Q.fr j h1 h2⟩
theorem RQ.put {b n h : Nat} {L : List Int} {q : List Int} (Q : RQ b n L h q) (hr : q.length < n) (hh : h + q.length < 800000) (v : Int) :
    ∃ L', doN b n 5 L ⟨0, 0, v, 0, 0⟩ = (5, L', ⟨4, 1, 0, ((h + q.length : Nat) : Int), 0⟩) ∧ RQ b n L' h (q ++ [v]) ∧ L'.length = L.length ∧ ∀ i, i < b → L'.getD i 0 = L.getD i 0 := by
  have hl := Q.len; have n1 := Q.n1; have n64 := Q.n64
  have hs : (h + q.length) % n < n := Nat.mod_lt _ (by omega)
  have hw := wtB n (h + q.length) (by omega)
  have hd := Nat.div_le_self (h + q.length) n
  refine ⟨_, put_done (b := b) (n := n) (L := L) (v := v) (T := ((h + q.length : Nat) : Int)) Q.tl (by have : top = 9223372036854775808 := rfl; omega) (by rw [tnB, hw]; exact Q.fr _ (Nat.le_refl _) hr) 0, ?_, by simp, ?_⟩
  · rw [hw, tnB]
    have e1 : uw (((h + q.length : Nat) : Int) + 1) = ((h + q.length + 1 : Nat) : Int) := (uwB (h + q.length + 1) (by omega))
    have e2 : uw (((2 * ((h + q.length) / n) : Nat) : Int) + 1) = ((2 * ((h + q.length) / n) + 1 : Nat) : Int) := uwB (2 * ((h + q.length) / n) + 1) (by omega)
    rw [e1, e2]
    generalize hS : (h + q.length) % n = s at hs ⊢
    have g : ∀ j, (((L.set b ((h + q.length + 1 : Nat) : Int)).set (b + 2 + 2 * s + 1) v).set (b + 2 + 2 * s) ((2 * ((h + q.length) / n) + 1 : Nat) : Int)).getD j 0 = if j = b + 2 + 2 * s then ((2 * ((h + q.length) / n) + 1 : Nat) : Int) else if j = b + 2 + 2 * s + 1 then v else if j = b then ((h + q.length + 1 : Nat) : Int) else L.getD j 0 := fun j => by
      rw [getD_set _ _ _ _ _ (by simp; omega), getD_set _ _ _ _ _ (by simp; omega), getD_set _ _ _ _ _ (by omega)]
    refine ⟨n1, n64, by simpa using hl, by simp; omega, by simp; omega, ?_, ?_, ?_, ?_⟩
    · rw [g, if_neg (by omega), if_neg (by omega), if_pos rfl]; simp; omega
    · rw [g, if_neg (by omega), if_neg (by omega), if_neg (by omega)]; exact Q.hd
    · intro i hi
      rw [List.length_append] at hi
      by_cases e : i = q.length
      · subst e
        rw [hS, g, if_pos rfl, g, if_neg (by omega), if_pos rfl]
        refine ⟨rfl, ?_⟩
        rw [List.getD_eq_getElem?_getD, List.getElem?_append_right (Nat.le_refl _)]; simp
      · have hi' : i < q.length := by simp at hi; omega
        have hne := mod_ne (n := n) (h := h) hi' (by omega)
        rw [hS] at hne
        rw [g, if_neg (by omega), if_neg (by omega), if_neg (by omega), g, if_neg (by omega), if_neg (by omega), if_neg (by omega)]
        refine ⟨(Q.tk i hi').1, (Q.tk i hi').2.trans ?_⟩
        rw [List.getD_eq_getElem?_getD, List.getD_eq_getElem?_getD, List.getElem?_append_left hi']
    · intro i h1 h2
      have h1' : q.length < i := by simp at h1; omega
      have hne := mod_ne (n := n) (h := h) h1' (by omega)
      rw [hS] at hne
      rw [g, if_neg (by omega), if_neg (by omega), if_neg (by omega)]
      exact Q.fr i (by omega) h2
  · intro i hi
    rw [tnB, getD_set _ _ _ _ _ (by simp; omega), if_neg (by omega), getD_set _ _ _ _ _ (by simp; omega), if_neg (by omega), getD_set _ _ _ _ _ (by omega), if_neg (by omega)]
theorem RQ.take {b n h : Nat} {L : List Int} {x : Int} {q : List Int} (Q : RQ b n L h (x :: q)) :
    ∃ L', doN b n 5 L ⟨5, 0, 0, 0, 0⟩ = (5, L', ⟨9, 1, x, 0, ((h : Nat) : Int)⟩) ∧ RQ b n L' (h + 1) q ∧ L'.length = L.length ∧ ∀ i, i < b → L'.getD i 0 = L.getD i 0 := by
  have hl := Q.len; have n1 := Q.n1; have n64 := Q.n64; have hq := Q.ql; have hhi := Q.hi
  simp only [List.length_cons] at hq hhi
  have hs : h % n < n := Nat.mod_lt _ (by omega)
  have hw := wtB n h (by omega)
  have hd := Nat.div_le_self h n
  obtain ⟨k1, k2⟩ := Q.tk 0 (by simp)
  simp only [Nat.add_zero] at k1 k2
  have e0 : uw (((2 * (h / n) : Nat) : Int) + 1) = ((2 * (h / n) + 1 : Nat) : Int) := uwB (2 * (h / n) + 1) (by omega)
  have hdn := take_done (b := b) (n := n) (L := L) (H := ((h : Nat) : Int)) Q.hd (by rw [tnB, hw, e0]; exact k1) 0
  rw [tnB, k2] at hdn
  refine ⟨_, hdn, ?_, by simp, ?_⟩
  · rw [hw]
    have e1 : uw (((h : Nat) : Int) + 1) = ((h + 1 : Nat) : Int) := (uwB (h + 1) (by omega))
    have e2 : uw (((2 * (h / n) : Nat) : Int) + 2) = ((2 * (h / n) + 2 : Nat) : Int) := uwB (2 * (h / n) + 2) (by omega)
    rw [e1, e2]
    generalize hS : h % n = s at hs ⊢
    have g : ∀ j, ((L.set (b + 2 + 2 * s) ((2 * (h / n) + 2 : Nat) : Int)).set (b + 1) ((h + 1 : Nat) : Int)).getD j 0 = if j = b + 1 then ((h + 1 : Nat) : Int) else if j = b + 2 + 2 * s then ((2 * (h / n) + 2 : Nat) : Int) else L.getD j 0 := fun j => by
      rw [getD_set _ _ _ _ _ (by simp; omega), getD_set _ _ _ _ _ (by omega)]
    refine ⟨n1, n64, by simpa using hl, by omega, by omega, ?_, ?_, ?_, ?_⟩
    · rw [g, if_neg (by omega), if_neg (by omega), Q.tl]; simp; omega
    · rw [g, if_pos rfl]
    · intro i hi
      have hne := mod_ne (n := n) (h := h) (i := 0) (j := i + 1) (by omega) (by omega)
      rw [Nat.add_zero, hS] at hne
      have := Q.tk (i + 1) (by simp; omega)
      rw [show h + 1 + i = h + (i + 1) by omega, g, if_neg (by omega), if_neg (by omega), g, if_neg (by omega), if_neg (by omega)]
      exact ⟨this.1, this.2.trans (by simp)⟩
    · intro i h1 h2
      by_cases e : i + 1 = n
      · rw [show h + 1 + i = h + n by omega, Nat.add_mod_right, hS, g, if_neg (by omega), if_pos rfl, Nat.add_div_right _ (by omega)]
        rfl
      · have hne := mod_ne (n := n) (h := h) (i := 0) (j := i + 1) (by omega) (by omega)
        rw [Nat.add_zero, hS] at hne
        rw [show h + 1 + i = h + (i + 1) by omega, g, if_neg (by omega), if_neg (by omega)]
        exact Q.fr (i + 1) (by simp; omega) (by omega)
  · intro i hi
    rw [getD_set _ _ _ _ _ (by simp; omega), if_neg (by omega), getD_set _ _ _ _ _ (by omega), if_neg (by omega)]
theorem RQ.none {b n h : Nat} {L : List Int} (Q : RQ b n L h []) : doN b n 2 L ⟨5, 0, 0, 0, 0⟩ = (2, L, ⟨7, 4, 0, 0, ((h : Nat) : Int)⟩) := by
  have n1 := Q.n1; have hhi := Q.hi
  simp only [List.length_nil] at hhi
  have hw := wtB n h (by omega)
  have hd := Nat.div_le_self h n
  have e0 : uw (((2 * (h / n) : Nat) : Int) + 1) = ((2 * (h / n) + 1 : Nat) : Int) := uwB (2 * (h / n) + 1) (by omega)
  have := Q.fr 0 (Nat.le_refl _) (by omega)
  simp only [Nat.add_zero] at this
  exact take_none Q.hd (by rw [tnB, hw, e0, this]; omega) 0
/-! ### the clock's operations at once -/
theorem over_of {o : RO} (h : o.out ≠ 0) : o.over = true := by simp [RO.over, h]
theorem run_of {o : RO} (h : o.out = 0) : o.over = false := by simp [RO.over, h]
theorem doC_put {B : CB} {w : Wh} {cut ref : List Int} : ∀ (k : Nat) {c : Nat} {L L' : List Int} {o o' : RO}, doN (B.b + 1) B.n k L o = (c, L', o') → o.out = 0 →
    doC B k L w ⟨.put o, 0, 0, [], cut, ref⟩ = (c, L', w, ⟨.put o', o'.out, 0, [], cut, ref⟩)
  | 0, c, L, L', o, o', h, ho => by
    simp only [doN, Prod.mk.injEq] at h
    obtain ⟨rfl, rfl, rfl⟩ := h
    simp only [doC, ho]
  | k + 1, c, L, L', o, o', h, ho => by
    rw [doN_go _ _ _ _ _ (run_of ho)] at h
    rw [doC_go B k L w _ rfl]
    have eg : goC B L w ⟨.put o, 0, 0, [], cut, ref⟩ = (goL (B.b + 1) B.n L o, w, ⟨.put (goO (B.b + 1) B.n L o), (goO (B.b + 1) B.n L o).out, 0, [], cut, ref⟩) := rfl
    rw [eg]
    generalize goL (B.b + 1) B.n L o = L1 at h ⊢
    generalize goO (B.b + 1) B.n L o = o1 at h ⊢
    obtain ⟨h1, h2⟩ := Prod.mk.inj h
    by_cases e : o1.out = 0
    · have ih := doC_put (B := B) (w := w) (cut := cut) (ref := ref) k (c := (doN (B.b + 1) B.n k L1 o1).1) (L' := L') (o' := o') (Prod.ext rfl h2) e
      rw [e, ih, ← h1]
    · rw [doN_over _ _ _ _ _ (over_of e)] at h1 h2
      obtain ⟨rfl, rfl⟩ := Prod.mk.inj h2
      rw [doC_over B k L1 w _ (by simp [CO.over, e]), ← h1]
/-- behind a take -/
def nxW (o : RO) (w : Wh) : Wh := if o.out = 1 then askW o.value w else w
def nxC (left : Nat) (o : RO) (w : Wh) (cut ref : List Int) : CO :=
  if o.out = 1 then ⟨nextT (left - 1) (askW o.value w), 0, 0, [], cut ++ askCut o.value w, ref ++ askRef o.value w⟩ else ⟨.tick ((w.now + 1 : Nat) : Int), 0, 0, [], cut, ref⟩
theorem doC_take {B : CB} {w : Wh} {cut ref : List Int} {left j : Nat} : ∀ (c : Nat) {L L' : List Int} {o o' : RO}, doN (B.b + 1) B.n c L o = (c, L', o') → o.out = 0 → o'.out ≠ 0 →
    doC B (c + j) L w ⟨.take left o, 0, 0, [], cut, ref⟩ = (c + (doC B j L' (nxW o' w) (nxC left o' w cut ref)).1, (doC B j L' (nxW o' w) (nxC left o' w cut ref)).2)
  | 0, L, L', o, o', h, ho, h2 => by
    simp only [doN, Prod.mk.injEq] at h
    obtain ⟨_, _, rfl⟩ := h
    exact absurd ho h2
  | c + 1, L, L', o, o', h, ho, h2 => by
    rw [doN_go _ _ _ _ _ (run_of ho)] at h
    rw [show c + 1 + j = (c + j) + 1 by omega, doC_go B (c + j) L w _ rfl]
    generalize hL1 : goL (B.b + 1) B.n L o = L1 at h
    generalize ho1 : goO (B.b + 1) B.n L o = o1 at h
    obtain ⟨h3, h4⟩ := Prod.mk.inj h
    by_cases e : o1.out = 0
    · have eg : goC B L w ⟨.take left o, 0, 0, [], cut, ref⟩ = (L1, w, ⟨.take left o1, 0, 0, [], cut, ref⟩) := by
        have e0 : goC B L w ⟨.take left o, 0, 0, [], cut, ref⟩ = stepC B L w ⟨.take left o, 0, 0, [], cut, ref⟩ := rfl
        rw [e0]
        simp only [stepC, hL1, ho1, run_of e, Bool.false_eq_true, if_false]
      rw [eg, doC_take c (L' := L') (o' := o') (Prod.ext (by simpa using h3) h4) e h2]
      simp only [Prod.mk.injEq, and_true]; omega
    · have e2 := doN_over (B.b + 1) B.n c L1 o1 (over_of e)
      rw [e2] at h3 h4
      obtain ⟨rfl, rfl⟩ := Prod.mk.inj h4
      obtain rfl : c = 0 := by simpa using h3.symm
      have eg : goC B L w ⟨.take left o, 0, 0, [], cut, ref⟩ = (L1, nxW o1 w, nxC left o1 w cut ref) := by
        have e0 : goC B L w ⟨.take left o, 0, 0, [], cut, ref⟩ = stepC B L w ⟨.take left o, 0, 0, [], cut, ref⟩ := rfl
        rw [e0]
        unfold nxW nxC
        by_cases e1 : o1.out = 1
        · simp only [stepC, hL1, ho1, over_of e, if_true, e1]
        · simp only [stepC, hL1, ho1, over_of e, if_true, e1, if_false]
      rw [eg, Nat.zero_add]
      simp only [Prod.mk.injEq, and_true]; omega
def foldW : List Int → Wh → Wh
  | [], w => w
  | v :: q, w => foldW q (askW v w)
def foldCut : List Int → Wh → List Int
  | [], _ => []
  | v :: q, w => askCut v w ++ foldCut q (askW v w)
def foldRef : List Int → Wh → List Int
  | [], _ => []
  | v :: q, w => askRef v w ++ foldRef q (askW v w)
/-- what a beat comes to -/
structure Beat (B : CB) (m k : Nat) (L : List Int) (w : Wh) (co : CO) (h : Nat) (q : List Int) (cut ref : List Int) : Prop where
  ex : ∃ c L' ph, c ≤ m ∧ (c ≤ k → doC B k L w co = (c, L', tickR (foldW q w), ⟨ph, 1, 0, (dueL (foldW q w)).map (·.id), cut ++ foldCut q w, ref ++ foldRef q w⟩)) ∧ RQ (B.b + 1) B.n L' (h + q.length) [] ∧ L'.length = L.length ∧ L'.getD B.b 0 = (((foldW q w).now + 1 : Nat) : Int)
theorem foldW_now : ∀ (q : List Int) (w : Wh), (foldW q w).now = w.now
  | [], _ => rfl
  | v :: q, w => by rw [foldW, foldW_now q, askW_now]
theorem beat_tick {B : CB} {L : List Int} {w : Wh} {h k : Nat} {cut ref : List Int} (Q : RQ (B.b + 1) B.n L h []) : Beat B 1 k L w ⟨.tick ((w.now + 1 : Nat) : Int), 0, 0, [], cut, ref⟩ h [] cut ref := ⟨1, L.set B.b ((w.now + 1 : Nat) : Int), .tick ((w.now + 1 : Nat) : Int), Nat.le_refl _, fun hk => by
    obtain ⟨j, rfl⟩ : ∃ j, k = j + 1 := ⟨k - 1, by omega⟩
    rw [doC_go B j L w _ rfl]
    have eg : goC B L w ⟨.tick ((w.now + 1 : Nat) : Int), 0, 0, [], cut, ref⟩ = (L.set B.b ((w.now + 1 : Nat) : Int), tickR w, ⟨.tick ((w.now + 1 : Nat) : Int), 1, 0, (dueL w).map (·.id), cut, ref⟩) := rfl
    rw [eg, doC_over B j _ _ _ rfl]
    simp [foldW, foldCut, foldRef], Q.other (Nat.lt_succ_self _) _, by simp, by have := Q.len; rw [getD_set _ _ _ _ _ (by omega), if_pos rfl]; rfl⟩
theorem beat_run {B : CB} : ∀ (q : List Int) {L : List Int} {w : Wh} {h left k : Nat} {cut ref : List Int}, RQ (B.b + 1) B.n L h q → q.length ≤ left → Beat B (5 * q.length + 3) k L w ⟨nextT left w, 0, 0, [], cut, ref⟩ h q cut ref
  | [], L, w, h, left, k, cut, ref, Q, hl => by
    by_cases e : left = 0
    · rw [show nextT left w = .tick ((w.now + 1 : Nat) : Int) by unfold nextT; rw [if_pos e]]
      obtain ⟨c, L', ph, h1, h2⟩ := (beat_tick (w := w) (cut := cut) (ref := ref) (k := k) Q).ex
      exact ⟨c, L', ph, by simp; omega, h2⟩
    · rw [show nextT left w = .take left (ini 5 0) by unfold nextT; rw [if_neg e]]
      obtain ⟨c, L', ph, h1, h2, h3, h4, h5⟩ := (beat_tick (w := w) (cut := cut) (ref := ref) (k := k - 2) Q).ex
      refine ⟨c + 2, L', ph, by simp at h1 ⊢; omega, fun hk => ?_, h3, h4, h5⟩
      have hd := doC_take (B := B) (w := w) (cut := cut) (ref := ref) (left := left) (j := k - 2) 2 Q.none rfl (show (4 : Int) ≠ 0 by decide)
      rw [show 2 + (k - 2) = k by omega] at hd
      have hd' : doC B k L w ⟨.take left (ini 5 0), 0, 0, [], cut, ref⟩ = _ := hd
      rw [hd', show nxW (⟨7, 4, 0, 0, ((h : Nat) : Int)⟩ : RO) w = w from rfl, show nxC left (⟨7, 4, 0, 0, ((h : Nat) : Int)⟩ : RO) w cut ref = ⟨.tick ((w.now + 1 : Nat) : Int), 0, 0, [], cut, ref⟩ from rfl, h2 (by omega), Nat.add_comm]
  | x :: q, L, w, h, left, k, cut, ref, Q, hl => by
    simp only [List.length_cons] at hl
    rw [show nextT left w = .take left (ini 5 0) by unfold nextT; rw [if_neg (by omega)]]
    obtain ⟨L1, d1, Q1, l1, o1⟩ := Q.take
    obtain ⟨c, L', ph, h1, h2, h3, h4, h5⟩ := (beat_run q (B := B) (L := L1) (w := askW x w) (h := h + 1) (left := left - 1) (k := k - 5) (cut := cut ++ askCut x w) (ref := ref ++ askRef x w) Q1 (by omega)).ex
    refine ⟨c + 5, L', ph, by simp; omega, fun hk => ?_, by rw [show h + (x :: q).length = h + 1 + q.length by simp; omega]; exact h3, h4.trans l1, h5⟩
    have hd := doC_take (B := B) (w := w) (cut := cut) (ref := ref) (left := left) (j := k - 5) 5 d1 rfl (show (1 : Int) ≠ 0 by decide)
    rw [show 5 + (k - 5) = k by omega] at hd
    have hd' : doC B k L w ⟨.take left (ini 5 0), 0, 0, [], cut, ref⟩ = _ := hd
    rw [hd', show nxW (⟨9, 1, x, 0, ((h : Nat) : Int)⟩ : RO) w = askW x w from rfl, show nxC left (⟨9, 1, x, 0, ((h : Nat) : Int)⟩ : RO) w cut ref = ⟨nextT (left - 1) (askW x w), 0, 0, [], cut ++ askCut x w, ref ++ askRef x w⟩ from rfl, h2 (by omega), Nat.add_comm]
    simp only [foldW, foldCut, foldRef, List.append_assoc]
/-- a beat at once -/
theorem beat_done {B : CB} {L : List Int} {w : Wh} {h : Nat} {q : List Int} (Q : RQ (B.b + 1) B.n L h q) :
    ∃ c L' ph, doC B 1000 L w (beatC B w) = (c, L', tickR (foldW q w), ⟨ph, 1, 0, (dueL (foldW q w)).map (·.id), foldCut q w, foldRef q w⟩) ∧ RQ (B.b + 1) B.n L' (h + q.length) [] ∧ L'.length = L.length ∧ L'.getD B.b 0 = ((w.now + 1 : Nat) : Int) := by
  obtain ⟨c, L', ph, h1, h2, h3, h4, h5⟩ := (beat_run q (w := w) (left := B.n) (k := 1000) (cut := []) (ref := []) Q Q.ql).ex
  have := Q.ql; have := Q.n64
  rw [foldW_now] at h5
  exact ⟨c, L', ph, h2 (by omega), h3, h4, h5⟩
/-- an ask at once -/
theorem ask_done {B : CB} {L : List Int} {w : Wh} {h : Nat} {q : List Int} (Q : RQ (B.b + 1) B.n L h q) (hr : q.length < B.n) (hh : h + q.length < 800000) {id d : Int} (hid : id ≤ 1125899906842624) (hd : 1 ≤ d ∧ d ≤ 4095) :
    ∃ L' ph, doC B 1000 L w (askC id d) = (5, L', w, ⟨ph, 1, 0, [], [], []⟩) ∧ RQ (B.b + 1) B.n L' h (q ++ [id * 4096 + d]) ∧ L'.length = L.length ∧ L'.getD B.b 0 = L.getD B.b 0 := by
  obtain ⟨L', d1, Q1, l1, o1⟩ := Q.put hr hh (id * 4096 + d)
  have d2 : doN (B.b + 1) B.n 1000 L ⟨0, 0, id * 4096 + d, 0, 0⟩ = _ := put_done (k := 995) Q.tl (by have : top = 9223372036854775808 := rfl; omega) (by rw [tnB, wtB _ _ (by omega)]; exact Q.fr _ (Nat.le_refl _) hr)
  have d3 : doN (B.b + 1) B.n 5 L ⟨0, 0, id * 4096 + d, 0, 0⟩ = _ := put_done (k := 0) Q.tl (by have : top = 9223372036854775808 := rfl; omega) (by rw [tnB, wtB _ _ (by omega)]; exact Q.fr _ (Nat.le_refl _) hr)
  have d4 : doN (B.b + 1) B.n 1000 L ⟨0, 0, id * 4096 + d, 0, 0⟩ = (5, L', ⟨4, 1, 0, ((h + q.length : Nat) : Int), 0⟩) := d2.trans (d3.symm.trans d1)
  have e : askC id d = ⟨.put (ini 0 (id * 4096 + d)), 0, 0, [], [], []⟩ := by unfold askC; rw [if_neg (by omega)]; rfl
  rw [e]
  exact ⟨L', _, doC_put 1000 d4 rfl, Q1, l1, o1 _ (Nat.lt_succ_self _)⟩
theorem cancel_done {B : CB} {L : List Int} {w : Wh} {h : Nat} {q : List Int} (Q : RQ (B.b + 1) B.n L h q) (hr : q.length < B.n) (hh : h + q.length < 800000) {id : Int} (hid : id ≤ 1125899906842624) :
    ∃ L' ph, doC B 1000 L w (cutC id) = (5, L', w, ⟨ph, 1, 0, [], [], []⟩) ∧ RQ (B.b + 1) B.n L' h (q ++ [id * 4096]) ∧ L'.length = L.length ∧ L'.getD B.b 0 = L.getD B.b 0 := by
  obtain ⟨L', d1, Q1, l1, o1⟩ := Q.put hr hh (id * 4096)
  have d2 : doN (B.b + 1) B.n 1000 L ⟨0, 0, id * 4096, 0, 0⟩ = _ := put_done (k := 995) Q.tl (by have : top = 9223372036854775808 := rfl; omega) (by rw [tnB, wtB _ _ (by omega)]; exact Q.fr _ (Nat.le_refl _) hr)
  have d3 : doN (B.b + 1) B.n 5 L ⟨0, 0, id * 4096, 0, 0⟩ = _ := put_done (k := 0) Q.tl (by have : top = 9223372036854775808 := rfl; omega) (by rw [tnB, wtB _ _ (by omega)]; exact Q.fr _ (Nat.le_refl _) hr)
  have d4 : doN (B.b + 1) B.n 1000 L ⟨0, 0, id * 4096, 0, 0⟩ = (5, L', ⟨4, 1, 0, ((h + q.length : Nat) : Int), 0⟩) := d2.trans (d3.symm.trans d1)
  have e : cutC id = ⟨.put (ini 0 (id * 4096)), 0, 0, [], [], []⟩ := by unfold cutC; rw [if_neg (by omega)]; rfl
  rw [e]
  exact ⟨L', _, doC_put 1000 d4 rfl, Q1, l1, o1 _ (Nat.lt_succ_self _)⟩
theorem now_done {B : CB} {L : List Int} {w : Wh} : doC B 1000 L w nowC = (1, L, w, ⟨.now, 1, L.getD B.b 0, [], [], []⟩) := by
  rw [doC_go B 999 L w _ rfl]
  have eg : goC B L w nowC = (L, w, ⟨.now, 1, L.getD B.b 0, [], [], []⟩) := rfl
  rw [eg, doC_over B 999 _ _ _ rfl]
end Go.L.Clk
