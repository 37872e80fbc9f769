/-
  A region that draws its order, where several effects may come first: one walk for each order of the effects. Own work; it speaks of no program.
-/
import Derived.Test.YtkmlneemconlgaaDoorFam
set_option linter.unusedSimpArgs false
set_option linter.unusedVariables false
set_option linter.unusedSectionVars false
namespace Go.L
inductive Tr
  | nil
  | loc (i : Nat) (r : Tr)
  | stab (i : Nat) (r : Tr)
  | eff (i : Nat) (r alts : Tr)
def Tr.heads : Tr → List Nat
  | .eff i _ alts => i :: alts.heads
  | _ => []
section
variable {P : Program} {ops : Array Oper} {E Gd : List Nat} {F : Act → World → Prop} {C : World → Prop}
/-- 'b': only alternatives are looked at -/
def okTr (ops : Array Oper) (ms : List Nat) (E Gd : List Nat) : Tr → Bool → Array Bool → Bool
  | .nil, false, listed => (Region.ready .any ops listed).isEmpty
  | .nil, true, _ => true
  | .loc i r, false, listed => (Region.ready .any ops listed).contains i && Region.free .any ops listed i && !E.contains i && E.all (fun e => listed.getD e false || (ms.getD e 0).testBit i) && okTr ops ms E Gd r false (listed.setIfInBounds i true)
  | .stab i r, false, listed => (Region.ready .any ops listed).contains i && Region.free .any ops listed i && !E.contains i && E.all (fun e => Gd.contains e || (listed.getD e false || (ms.getD e 0).testBit i)) && okTr ops ms E Gd r false (listed.setIfInBounds i true)
  | .eff i r alts, b, listed => (b || decide (Region.ready .any ops listed = i :: alts.heads)) && E.contains i && okTr ops ms E Gd r false (listed.setIfInBounds i true) && okTr ops ms E Gd alts true listed
  | _, true, _ => false
def Tr.depth : Tr → Nat → Bool
  | .nil, n => Nat.beq n 0
  | .loc _ r, n => match n with | 0 => false | n + 1 => r.depth n
  | .stab _ r, n => match n with | 0 => false | n + 1 => r.depth n
  | .eff _ r alts, n => match n with
    | 0 => false
    | m + 1 => r.depth m && (match alts with | .nil => true | _ => alts.depth (m + 1))
def okTree (l : List Oper) (E Gd : List Nat) (t : Tr) : Bool :=
  Region.noSelect l.toArray && t.depth l.length && okTr l.toArray (masks l []) E Gd t false (Array.replicate l.length false)
def effW (P : Program) (ops : Array Oper) (Gd : List Nat) (C : World → Prop) (i : Nat) (K : Act → World → Prop) (a : Act) (w : World) : Prop :=
  match ops[i]? with
  | none => False
  | some o => if Region.wanted o (yielded ops a.tmps) then o.wp P a w (fun a' w' => (i ∈ Gd → C w') ∧ K a' w') QF else K (a.put o.dst undef) w
def wpTr (P : Program) (ops : Array Oper) (F : Act → World → Prop) (Gd : List Nat) (C : World → Prop) : Tr → Bool → Act → World → Prop
  | .nil, false, a, w => F a w
  | .nil, true, _, _ => True
  | .loc i r, _, a, w => match ops[i]? with
    | none => False
    | some o => if Region.wanted o (yielded ops a.tmps) then ∃ v, (execOp a.eval o).run P w = .ok (.value v) w ∧ wpTr P ops F Gd C r false (a.put o.dst v) w else wpTr P ops F Gd C r false (a.put o.dst undef) w
  | .stab i r, _, a, w => match ops[i]? with
    | none => False
    | some o => if Region.wanted o (yielded ops a.tmps) then C w ∧ ∃ v, (∀ w, C w → (execOp a.eval o).run P w = .ok (.value v) w) ∧ wpTr P ops F Gd C r false (a.put o.dst v) w else wpTr P ops F Gd C r false (a.put o.dst undef) w
  | .eff i r alts, _, a, w => effW P ops Gd C i (wpTr P ops F Gd C r false) a w ∧ wpTr P ops F Gd C alts true a w
theorem opE_of_effW {i : Nat} {K K' : Act → World → Prop} {a : Act} {w : World} (hE : i ∈ E) (h : effW P ops Gd C i K a w) (hk : ∀ a w, K a w → K' a w) : opE P ops E Gd C i K' a w := by
  unfold effW at h; unfold opE
  cases ho : ops[i]? with
  | none => rw [ho] at h; exact h.elim
  | some o =>
    rw [ho] at h
    simp only at h ⊢
    by_cases hw : Region.wanted o (yielded ops a.tmps) = true
    · rw [if_pos hw] at h ⊢; rw [if_pos hE]
      exact Oper.wp_mono (fun a' w' hh => ⟨hh.1, hk _ _ hh.2⟩) h
    · rw [if_neg hw] at h ⊢; exact hk _ _ h
theorem alts_spec {l : List Oper} : ∀ (t : Tr) (listed : Array Bool) (a : Act) (w : World), okTr l.toArray (masks l []) E Gd t true listed = true → wpTr P l.toArray F Gd C t true a w →
    ∀ i ∈ t.heads, ∃ r, i ∈ E ∧ okTr l.toArray (masks l []) E Gd r false (listed.setIfInBounds i true) = true ∧ effW P l.toArray Gd C i (wpTr P l.toArray F Gd C r false) a w ∧ ∀ n, (match t with | .nil => true | _ => t.depth (n + 1)) = true → r.depth n = true
  | .nil, _, _, _, _, _ => by intro i hi; cases hi
  | .loc _ _, _, _, _, h, _ => by simp [okTr] at h
  | .stab _ _, _, _, _, h, _ => by simp [okTr] at h
  | .eff j r alts, listed, a, w, h, hw => by
    simp only [okTr, Bool.true_or, Bool.true_and, Bool.and_eq_true] at h
    obtain ⟨⟨h1, h2⟩, h3⟩ := h
    obtain ⟨w1, w2⟩ := hw
    intro i hi
    rcases List.mem_cons.1 hi with rfl | hi
    · exact ⟨r, by simpa using h1, h2, w1, fun n hd => by simp only [Tr.depth, Bool.and_eq_true] at hd; exact hd.1⟩
    · obtain ⟨r', k1, k2, k3, k4⟩ := alts_spec alts listed a w h3 w2 i hi
      exact ⟨r', k1, k2, k3, fun n hd => k4 n (by simp only [Tr.depth, Bool.and_eq_true] at hd; cases alts <;> first | rfl | exact hd.2)⟩
theorem anyE_of_tree {l : List Oper} (hs : Region.noSelect l.toArray = true) : ∀ (n : Nat) (t : Tr) (listed : Array Bool) (a : Act) (w : World), t.depth n = true → Closed l.toArray listed → okTr l.toArray (masks l []) E Gd t false listed = true →
    wpTr P l.toArray F Gd C t false a w → anyE P l.toArray E Gd F C n listed a w
  | n, .nil, listed, a, w, hd, _, hB, h => by
    have : n = 0 := Nat.eq_of_beq_eq_true hd
    subst this; exact ⟨by simpa [okTr] using hB, h⟩
  | 0, .loc _ _, _, _, _, hd, _, _, _ => by simp [Tr.depth] at hd
  | 0, .stab _ _, _, _, _, hd, _, _, _ => by simp [Tr.depth] at hd
  | 0, .eff _ _ _, _, _, _, hd, _, _, _ => by simp [Tr.depth] at hd
  | n + 1, .loc i r, listed, a, w, hd, hc, hB, h => by
    have hd : r.depth n = true := hd
    simp only [wpTr] at h
    cases ho : l.toArray[i]? with
    | none => rw [ho] at h; exact h.elim
    | some o =>
      simp only [ho] at h
      simp only [okTr, Bool.and_eq_true] at hB
      obtain ⟨⟨⟨⟨hr, hf⟩, hE⟩, hall⟩, hB'⟩ := hB
      have hr' : i ∈ Region.ready .any l.toArray listed := by simpa using hr
      have hE' : i ∉ E := by simpa using hE
      have hall' : ∀ e ∈ E, listed.getD e false = true ∨ ((masks l []).getD e 0).testBit i = true := by simpa [List.all_eq_true] using hall
      have fin : ∀ v, YD P l.toArray (fun w' => w' = w) o v a → wpTr P l.toArray F Gd C r false (a.put o.dst v) w → anyE P l.toArray E Gd F C (n + 1) listed a w := fun v hy hK =>
        anyE_first (D := fun w' => w' = w) ho hE' (Region.noSelect_spec hs) (fun ls => Closed l.toArray ls ∧ ∀ e ∈ E, ls.getD e false = true ∨ ((masks l []).getD e 0).testBit i = true)
          (fun ls j hI _ hj => ⟨hI.1.set hj, fun e he => (hI.2 e he).imp (fun h => getD_set_true h) id⟩)
          (fun ls j hI hu hj he w' _ => by
            exfalso
            rcases hI.2 j he with h1 | h1
            · have h2 := (mem_ready.1 hj).1; rw [getD_both' h2] at h1; cases h1
            · exact (waits_mask hI.1 (getD_both' hu) j h1).2 hj)
          n listed a w ⟨hc, hall'⟩ rfl (Region.free_spec ho hf) hr' hy (anyE_of_tree hs n r _ _ _ hd (hc.set hr') hB' hK)
      by_cases hw : Region.wanted o (yielded l.toArray a.tmps) = true
      · rw [if_pos hw] at h
        obtain ⟨v, hv, hK⟩ := h
        exact fin v (.inl ⟨hw, fun w' e => by subst e; exact hv⟩) hK
      · rw [if_neg hw] at h
        exact fin undef (.inr ⟨by simpa using hw, rfl⟩) h
  | n + 1, .stab i r, listed, a, w, hd, hc, hB, h => by
    have hd : r.depth n = true := hd
    simp only [wpTr] at h
    cases ho : l.toArray[i]? with
    | none => rw [ho] at h; exact h.elim
    | some o =>
      simp only [ho] at h
      simp only [okTr, Bool.and_eq_true] at hB
      obtain ⟨⟨⟨⟨hr, hf⟩, hE⟩, hall⟩, hB'⟩ := hB
      have hr' : i ∈ Region.ready .any l.toArray listed := by simpa using hr
      have hE' : i ∉ E := by simpa using hE
      have hall' : ∀ e ∈ E, e ∈ Gd ∨ listed.getD e false = true ∨ ((masks l []).getD e 0).testBit i = true := by simpa [List.all_eq_true] using hall
      by_cases hw : Region.wanted o (yielded l.toArray a.tmps) = true
      · rw [if_pos hw] at h
        obtain ⟨hC, v, hv, hK⟩ := h
        exact anyE_first (D := C) ho hE' (Region.noSelect_spec hs) (fun ls => Closed l.toArray ls ∧ ∀ e ∈ E, e ∈ Gd ∨ ls.getD e false = true ∨ ((masks l []).getD e 0).testBit i = true)
          (fun ls j hI _ hj => ⟨hI.1.set hj, fun e he => (hI.2 e he).imp id (fun h => h.imp (fun h => getD_set_true h) id)⟩)
          (fun ls j hI hu hj he w' hCw => by
            rcases hI.2 j he with h1 | h1 | h1
            · exact hCw h1
            · exfalso; have h2 := (mem_ready.1 hj).1; rw [getD_both' h2] at h1; cases h1
            · exfalso; exact (waits_mask hI.1 (getD_both' hu) j h1).2 hj)
          n listed a w ⟨hc, hall'⟩ hC (Region.free_spec ho hf) hr' (.inl ⟨hw, hv⟩) (anyE_of_tree hs n r _ _ _ hd (hc.set hr') hB' hK)
      · rw [if_neg hw] at h
        exact anyE_first (D := fun _ => True) ho hE' (Region.noSelect_spec hs) (fun _ => True) (fun _ _ _ _ _ => trivial) (fun _ _ _ _ _ _ _ _ => trivial)
          n listed a w trivial trivial (Region.free_spec ho hf) hr' (.inr ⟨by simpa using hw, rfl⟩) (anyE_of_tree hs n r _ _ _ hd (hc.set hr') hB' h)
  | n + 1, .eff i r alts, listed, a, w, hd, hc, hB, h => by
    simp only [okTr, Bool.false_or, Bool.and_eq_true, decide_eq_true_eq] at hB
    obtain ⟨⟨⟨hr, hE⟩, hB'⟩, hA⟩ := hB
    simp only [Tr.depth, Bool.and_eq_true] at hd
    refine ⟨fun h0 => (by rw [h0] at hr; cases hr), fun j hj => ?_⟩
    obtain ⟨w1, w2⟩ := h
    have hj' := hj
    rw [hr] at hj'
    rcases List.mem_cons.1 hj' with rfl | hj2
    · exact opE_of_effW (by simpa using hE) w1 fun a' w' hh => anyE_of_tree hs n r _ _ _ hd.1 (hc.set hj) hB' hh
    · obtain ⟨r', k1, k2, k3, k4⟩ := alts_spec alts listed a w hA w2 j hj2
      exact opE_of_effW k1 k3 fun a' w' hh => anyE_of_tree hs n r' _ _ _ (k4 n (by cases alts <;> first | rfl | exact hd.2)) (hc.set hj) k2 hh
theorem wp_region_tree {id : Nat} {Q : Exit → Act → World → Prop} {a : Act} {w : World} {l : List Oper} (E Gd : List Nat) (t : Tr) (C : World → Prop) (hm : P.follows .mixedOrders = true) (hB : okTree l E Gd t = true)
    (h : wpTr P l.toArray (Q .normal) Gd C t false a { w with drawn := w.drawn + 1 }) : (Code.region id l.toArray true).wp P Q a w := by
  simp only [okTree, Bool.and_eq_true] at hB
  obtain ⟨⟨hs, hl⟩, hB'⟩ := hB
  refine wp_region_any hm ?_
  have := wpAny_of_anyE (Q := Q) (F := Q .normal) (fun _ _ h => h) _ _ _ _ (anyE_of_tree hs l.length t _ a _ hl (fun j oj _ hl => by rw [getD_replicate_false] at hl; cases hl) hB' h)
  simpa using this

variable {W0 : World} {n : Nat} {sl : Slots} {As Bs Cs : List Assn} {Q : Exit → Act → World → Prop} {op : Op} {ty : TypeId} {pos : String} {aft : Array Edge} {g : Option (Nat × Bool)} {i : Nat} {t u : Tr} {b : Bool}
def GT (P : Program) (W0 : World) (n : Nat) (ops : Array Oper) (Gd : List Nat) (t : Tr) (b : Bool) (sl : Slots) (As Cs : List Assn) (F : Act → World → Prop) : Prop :=
  ∀ a w, HasSl n sl a → St W0 As w → wpTr P ops F Gd (St W0 Cs) t b a w
theorem gt_split {j dj : Nat} {c : Bool} (_hj : (ops[j]?).bind (·.dst) = some dj) (_hv : slk sl dj = some (.bool c)) (h1 : c = true → GT P W0 n ops Gd t b sl As Cs F) (h2 : c = false → GT P W0 n ops Gd t b sl As Cs F) : GT P W0 n ops Gd t b sl As Cs F := by
  cases c; exact h2 rfl; exact h1 rfl
theorem gt_nil (h : GE W0 n sl As F) : GT P W0 n ops Gd .nil false sl As Cs F := h
theorem gt_imp (f : ∀ h, Sat As h → Sat Bs h) (h : GT P W0 n ops Gd t b sl Bs Cs F) : GT P W0 n ops Gd t b sl As Cs F := fun a w hs s => h a w hs (s.imp f)
theorem gt_alts (h : GT P W0 n ops Gd (.eff i t .nil) b sl As Cs F) (h2 : GT P W0 n ops Gd u true sl As Cs F) : GT P W0 n ops Gd (.eff i t u) b sl As Cs F := fun a w hs s => ⟨(h a w hs s).1, h2 a w hs s⟩
theorem gt_v {v : Value} {d : Nat} (ho : ops[i]? = some ⟨some d, op, ty, pos, aft, g⟩) (hw : Wn ops sl g true) (hd : Nat.blt d n = true) (hv : OV P W0 n op ty sl As v) (h : GT P W0 n ops Gd t false ((d, v) :: sl) As Cs F) : GT P W0 n ops Gd (.loc i t) b sl As Cs F :=
  fun a w hs s => by
    simp only [wpTr, ho, Wn.wanted (o := ⟨some d, op, ty, pos, aft, g⟩) hw hs, if_true]
    exact ⟨v, hv _ _ _ _ _ _ hs s, h _ _ (hs.put v hd) s⟩
theorem gt_vs {v : Value} {d : Nat} (ho : ops[i]? = some ⟨some d, op, ty, pos, aft, g⟩) (hw : Wn ops sl g true) (hd : Nat.blt d n = true) (hv : OV P W0 n op ty sl Cs v) (hc : ∀ h, Sat As h → Sat Cs h) (h : GT P W0 n ops Gd t false ((d, v) :: sl) As Cs F) : GT P W0 n ops Gd (.stab i t) b sl As Cs F :=
  fun a w hs s => by
    simp only [wpTr, ho, Wn.wanted (o := ⟨some d, op, ty, pos, aft, g⟩) hw hs, if_true]
    exact ⟨s.imp hc, v, fun w' s' => hv _ _ _ _ _ _ hs s', h _ _ (hs.put v hd) s⟩
theorem gt_v0 {v : Value} (ho : ops[i]? = some ⟨none, op, ty, pos, aft, g⟩) (hw : Wn ops sl g true) (hv : OV P W0 n op ty sl As v) (h : GT P W0 n ops Gd t false sl As Cs F) : GT P W0 n ops Gd (.loc i t) b sl As Cs F :=
  fun a w hs s => by
    simp only [wpTr, ho, Wn.wanted (o := ⟨none, op, ty, pos, aft, g⟩) hw hs, if_true]
    exact ⟨v, hv _ _ _ _ _ _ hs s, h _ _ hs s⟩
theorem gt_skipL {d : Nat} (ho : ops[i]? = some ⟨some d, op, ty, pos, aft, g⟩) (hw : Wn ops sl g false) (hd : Nat.blt d n = true) (h : GT P W0 n ops Gd t false ((d, undef) :: sl) As Cs F) : GT P W0 n ops Gd (.loc i t) b sl As Cs F :=
  fun a w hs s => by
    simp only [wpTr, ho, Wn.wanted (o := ⟨some d, op, ty, pos, aft, g⟩) hw hs, Bool.false_eq_true, if_false]
    exact h _ _ (hs.put undef hd) s
theorem gt_skipS {d : Nat} (ho : ops[i]? = some ⟨some d, op, ty, pos, aft, g⟩) (hw : Wn ops sl g false) (hd : Nat.blt d n = true) (h : GT P W0 n ops Gd t false ((d, undef) :: sl) As Cs F) : GT P W0 n ops Gd (.stab i t) b sl As Cs F :=
  fun a w hs s => by
    simp only [wpTr, ho, Wn.wanted (o := ⟨some d, op, ty, pos, aft, g⟩) hw hs, Bool.false_eq_true, if_false]
    exact h _ _ (hs.put undef hd) s
theorem gt_skipE {d : Nat} (ho : ops[i]? = some ⟨some d, op, ty, pos, aft, g⟩) (hw : Wn ops sl g false) (hd : Nat.blt d n = true) (h : GT P W0 n ops Gd t false ((d, undef) :: sl) As Cs F) : GT P W0 n ops Gd (.eff i t .nil) b sl As Cs F :=
  fun a w hs s => by
    refine ⟨?_, trivial⟩
    simp only [effW, ho, Wn.wanted (o := ⟨some d, op, ty, pos, aft, g⟩) hw hs, Bool.false_eq_true, if_false]
    exact h _ _ (hs.put undef hd) s
theorem gt_skip0E (ho : ops[i]? = some ⟨none, op, ty, pos, aft, g⟩) (hw : Wn ops sl g false) (h : GT P W0 n ops Gd t false sl As Cs F) : GT P W0 n ops Gd (.eff i t .nil) b sl As Cs F :=
  fun a w hs s => by
    refine ⟨?_, trivial⟩
    simp only [effW, ho, Wn.wanted (o := ⟨none, op, ty, pos, aft, g⟩) hw hs, Bool.false_eq_true, if_false]
    exact h _ _ hs s
theorem gt_ve {v : Value} {d : Nat} (ho : ops[i]? = some ⟨some d, op, ty, pos, aft, g⟩) (hw : Wn ops sl g true) (hd : Nat.blt d n = true) (hv : OV P W0 n op ty sl As v) (hc : i ∈ Gd → ∀ h, Sat As h → Sat Cs h) (h : GT P W0 n ops Gd t false ((d, v) :: sl) As Cs F) : GT P W0 n ops Gd (.eff i t .nil) b sl As Cs F :=
  fun a w hs s => by
    refine ⟨?_, trivial⟩
    simp only [effW, ho, Wn.wanted (o := ⟨some d, op, ty, pos, aft, g⟩) hw hs, if_true, Oper.wp, hv _ _ _ _ _ _ hs s, Oper.upon]
    exact ⟨fun hG => s.imp (hc hG), h _ _ (hs.put v hd) s⟩
theorem gt_u (ho : ops[i]? = some ⟨none, op, ty, pos, aft, g⟩) (hw : Wn ops sl g true) (hv : OU P W0 n op ty sl As Bs) (hc : i ∈ Gd → ∀ h, Sat Bs h → Sat Cs h) (h : GT P W0 n ops Gd t false sl Bs Cs F) : GT P W0 n ops Gd (.eff i t .nil) b sl As Cs F :=
  fun a w hs s => by
    refine ⟨?_, trivial⟩
    obtain ⟨w', hr, s'⟩ := hv a w none pos aft g hs s
    simp only [effW, ho, Wn.wanted (o := ⟨none, op, ty, pos, aft, g⟩) hw hs, if_true, Oper.wp, hr, Oper.upon]
    exact ⟨fun hG => s'.imp (hc hG), h _ _ hs s'⟩
theorem gt_n {d : Nat} {p : Value → List Assn → Prop} (ho : ops[i]? = some ⟨some d, op, ty, pos, aft, g⟩) (hw : Wn ops sl g true) (hd : Nat.blt d n = true) (hv : ON P W0 n op ty sl As p) (h : ∀ v Bs, p v Bs → (i ∈ Gd → ∀ h, Sat Bs h → Sat Cs h) ∧ GT P W0 n ops Gd t false ((d, v) :: sl) Bs Cs F) : GT P W0 n ops Gd (.eff i t .nil) b sl As Cs F :=
  fun a w hs s => by
    refine ⟨?_, trivial⟩
    obtain ⟨v, Bs, w', hr, hp, s'⟩ := hv a w (some d) pos aft g hs s
    simp only [effW, ho, Wn.wanted (o := ⟨some d, op, ty, pos, aft, g⟩) hw hs, if_true, Oper.wp, hr, Oper.upon]
    exact ⟨fun hG => s'.imp ((h v Bs hp).1 hG), (h v Bs hp).2 _ _ (hs.put v hd) s'⟩
theorem gt_c {d : Nat} {p : Value → List Assn → Prop} (ho : ops[i]? = some ⟨some d, op, ty, pos, aft, g⟩) (hw : Wn ops sl g true) (hd : Nat.blt d n = true) (hv : OC P W0 n op ty sl As p) (h : ∀ v Bs, p v Bs → (i ∈ Gd → ∀ h, Sat Bs h → Sat Cs h) ∧ GT P W0 n ops Gd t false ((d, v) :: sl) Bs Cs F) : GT P W0 n ops Gd (.eff i t .nil) b sl As Cs F :=
  fun a w hs s => by
    refine ⟨?_, trivial⟩
    obtain ⟨f, args, hr, hcl⟩ := hv a w (some d) pos aft g hs s
    simp only [effW, ho, Wn.wanted (o := ⟨some d, op, ty, pos, aft, g⟩) hw hs, if_true, Oper.wp, hr, Oper.upon]
    exact hcl.mono fun e w' ⟨v, Bs, he, hp, s'⟩ => by subst he; exact ⟨fun hG => s'.imp ((h v Bs hp).1 hG), (h v Bs hp).2 _ _ (hs.put v hd) s'⟩
theorem g_tree {id : Nat} {l : List Oper} (E Gd : List Nat) (t : Tr) (Cs : List Assn) (hm : P.follows .mixedOrders = true) (hB : okTree l E Gd t = true)
    (h : GT P W0 n l.toArray Gd t false sl As Cs (Q .normal)) : G P W0 n (.region id l.toArray true) sl As Q :=
  fun a w hs s => wp_region_tree E Gd t _ hm hB (h a _ hs s.drew)
end
end Go.L
