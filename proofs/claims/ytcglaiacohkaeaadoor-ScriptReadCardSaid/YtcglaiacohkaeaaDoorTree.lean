/-
  A region that draws its order, where several effects may come first: one walk for each order of the effects. Own work; it speaks of no program.
-/
import Derived.Test.YtcglaiacohkaeaaDoorFam
set_option linter.unusedSimpArgs false
set_option linter.unusedVariables false
set_option linter.unusedSectionVars false
namespace Go.L
inductive Tr
  | nil
  | loc (i : Nat) (r : Tr)
  | stab (i : Nat) (r : Tr)
  | eff (i : Nat) (r alts : Tr)
def Tr.heads : Tr → List Nat
  | .eff i _ alts => i :: alts.heads
  | _ => []
section
variable {P : Program} {ops : Array Oper} {E Gd : List Nat} {F : Act → World → Prop} {C : World → Prop}
/-- 'b': only alternatives are looked at -/
def okTr (ops : Array Oper) (ms : List Nat) (E Gd : List Nat) : Tr → Bool → Array Bool → Bool
  | .nil, false, listed => (Region.ready .any ops listed).isEmpty
  | .nil, true, _ => true
  | .loc i r, false, listed => (Region.ready .any ops listed).contains i && Region.free .any ops listed i && !E.contains i && E.all (fun e => listed.getD e false || (ms.getD e 0).testBit i) && okTr ops ms E Gd r false (listed.setIfInBounds i true)
  | .stab i r, false, listed => (Region.ready .any ops listed).contains i && Region.free .any ops listed i && !E.contains i && E.all (fun e => Gd.contains e || (listed.getD e false || (ms.getD e 0).testBit i)) && okTr ops ms E Gd r false (listed.setIfInBounds i true)
  | .eff i r alts, b, listed => (b || decide (Region.ready .any ops listed = i :: alts.heads)) && E.contains i && okTr ops ms E Gd r false (listed.setIfInBounds i true) && okTr ops ms E Gd alts true listed
  | _, true, _ => false
def Tr.depth : Tr → Nat → Bool
  | .nil, n => Nat.beq n 0
  | .loc _ r, n => match n with | 0 => false | n + 1 => r.depth n
  | .stab _ r, n => match n with | 0 => false | n + 1 => r.depth n
  | .eff _ r alts, n => match n with
    | 0 => false
    | m + 1 => r.depth m && (match alts with | .nil => true | _ => alts.depth (m + 1))
def okTree (l : List Oper) (E Gd : List Nat) (t : Tr) : Bool :=
  Region.noSelect l.toArray && t.depth l.length && okTr l.toArray (masks l []) E Gd t false (Array.replicate l.length false)
def effW (P : Program) (ops : Array Oper) (Gd : List Nat) (C : World → Prop) (i : Nat) (K : Act → World → Prop) (a : Act) (w : World) : Prop :=
  match ops[i]? with
  | none => False
  | some o => if Region.wanted o (yielded ops a.tmps) then o.wp P a w (fun a' w' => (i ∈ Gd → C w') ∧ K a' w') QF else K (a.put o.dst undef) w
def wpTr (P : Program) (ops : Array Oper) (F : Act → World → Prop) (Gd : List Nat) (C : World → Prop) : Tr → Bool → Act → World → Prop
  | .nil, false, a, w => F a w
  | .nil, true, _, _ => True
  | .loc i r, _, a, w => match ops[i]? with
    | none => False
    | some o => if Region.wanted o (yielded ops a.tmps) then ∃ v, (execOp a.eval o).run P w = .ok (.value v) w ∧ wpTr P ops F Gd C r false (a.put o.dst v) w else wpTr P ops F Gd C r false (a.put o.dst undef) w
  | .stab i r, _, a, w => match ops[i]? with
    | none => False
    | some o => if Region.wanted o (yielded ops a.tmps) then C w ∧ ∃ v, (∀ w, C w → (execOp a.eval o).run P w = .ok (.value v) w) ∧ wpTr P ops F Gd C r false (a.put o.dst v) w else wpTr P ops F Gd C r false (a.put o.dst undef) w
  | .eff i r alts, _, a, w => effW P ops Gd C i (wpTr P ops F Gd C r false) a w ∧ wpTr P ops F Gd C alts true a w
theorem opE_of_effW {i : Nat} {K K' : Act → World → Prop} {a : Act} {w : World} (hE : i ∈ E) (h : effW P ops Gd C i K a w) (hk : ∀ a w, K a w → K' a w) : opE P ops E Gd C i K' a w := by
  unfold effW at h; unfold opE
  cases ho : ops[i]? with
  | none => rw [ho] at h; exact h.elim
  | some o =>
    rw [ho] at h
    simp only at h ⊢
    by_cases hw : Region.wanted o (yielded ops a.tmps) = true
    · rw [if_pos hw] at h ⊢; rw [if_pos hE]
      exact Oper.wp_mono (fun a' w' hh => ⟨hh.1, hk _ _ hh.2⟩) h
    · rw [if_neg hw] at h ⊢; exact hk _ _ h
theorem alts_spec {l : List Oper} : ∀ (t : Tr) (listed : Array Bool) (a : Act) (w : World), okTr l.toArray (masks l []) E Gd t true listed = true → wpTr P l.toArray F Gd C t true a w →
    ∀ i ∈ t.heads, ∃ r, i ∈ E ∧ okTr l.toArray (masks l []) E Gd r false (listed.setIfInBounds i true) = true ∧ effW P l.toArray Gd C i (wpTr P l.toArray F Gd C r false) a w ∧ ∀ n, (match t with | .nil => true | _ => t.depth (n + 1)) = true → r.depth n = true
  | .nil, _, _, _, _, _ => by intro i hi; cases hi
  | .loc _ _, _, _, _, h, _ => by simp [okTr] at h
  | .stab _ _, _, _, _, h, _ => by simp [okTr] at h
  | .eff j r alts, listed, a, w, h, hw => by
    simp only [okTr, Bool.true_or, Bool.true_and, Bool.and_eq_true] at h
    obtain ⟨⟨h1, h2⟩, h3⟩ := h
    obtain ⟨w1, w2⟩ := hw
    intro i hi
    rcases List.mem_cons.1 hi with rfl | hi
    · exact ⟨r, by simpa using h1, h2, w1, fun n hd => by simp only [Tr.depth, Bool.and_eq_true] at hd; exact hd.1⟩
    · obtain ⟨r', k1, k2, k3, k4⟩ := alts_spec alts listed a w h3 w2 i hi
      exact ⟨r', k1, k2, k3, fun n hd => k4 n (by simp only [Tr.depth, Bool.and_eq_true] at hd; cases alts <;> first | rfl | exact hd.2)⟩
theorem anyE_of_tree {l : List Oper} (hs : Region.noSelect l.toArray = true) : ∀ (n : Nat) (t : Tr) (listed : Array Bool) (a : Act) (w : World), t.depth n = true → Closed l.toArray listed → okTr l.toArray (masks l []) E Gd t false listed = true →
    wpTr P l.toArray F Gd C t false a w → anyE P l.toArray E Gd F C n listed a w
  | n, .nil, listed, a, w, hd, _, hB, h => by
    have : n = 0 := Nat.eq_of_beq_eq_true hd
    subst this; exact ⟨by simpa [okTr] using hB, h⟩
  | 0, .loc _ _, _, _, _, hd, _, _, _ => by simp [Tr.depth] at hd
  | 0, .stab _ _, _, _, _, hd, _, _, _ => by simp [Tr.depth] at hd
  | 0, .eff _ _ _, _, _, _, hd, _, _, _ => by simp [Tr.depth] at hd
  | n + 1, .loc i r, listed, a, w, hd, hc, hB, h => by
    have hd : r.depth n = true := hd
    simp only [wpTr] at h
    cases ho : l.toArray[i]? with
    | none => rw [ho] at h; exact h.elim
    | some o =>
      simp only [ho] at h
      simp only [okTr, Bool.and_eq_true] at hB
      obtain ⟨⟨⟨⟨hr, hf⟩, hE⟩, hall⟩, hB'⟩ := hB
      have hr' : i ∈ Region.ready .any l.toArray listed := by simpa using hr
      have hE' : i ∉ E := by simpa using hE
      have hall' : ∀ e ∈ E, listed.getD e false = true ∨ ((masks l []).getD e 0).testBit i = true := by simpa [List.all_eq_true] using hall
      have fin : ∀ v, YD P l.toArray (fun w' => w' = w) o v a → wpTr P l.toArray F Gd C r false (a.put o.dst v) w → anyE P l.toArray E Gd F C (n + 1) listed a w := fun v hy hK =>
        anyE_first (D := fun w' => w' = w) ho hE' (Region.noSelect_spec hs) (fun ls => Closed l.toArray ls ∧ ∀ e ∈ E, ls.getD e false = true ∨ ((masks l []).getD e 0).testBit i = true)
          (fun ls j hI _ hj => ⟨hI.1.set hj, fun e he => (hI.2 e he).imp (fun h => getD_set_true h) id⟩)
          (fun ls j hI hu hj he w' _ => by
            exfalso
            rcases hI.2 j he with h1 | h1
            · have h2 := (mem_ready.1 hj).1; rw [getD_both' h2] at h1; cases h1
            · exact (waits_mask hI.1 (getD_both' hu) j h1).2 hj)
          n listed a w ⟨hc, hall'⟩ rfl (Region.free_spec ho hf) hr' hy (anyE_of_tree hs n r _ _ _ hd (hc.set hr') hB' hK)
      by_cases hw : Region.wanted o (yielded l.toArray a.tmps) = true
      · rw [if_pos hw] at h
        obtain ⟨v, hv, hK⟩ := h
        exact fin v (.inl ⟨hw, fun w' e => by subst e; exact hv⟩) hK
      · rw [if_neg hw] at h
        exact fin undef (.inr ⟨by simpa using hw, rfl⟩) h
  | n + 1, .stab i r, listed, a, w, hd, hc, hB, h => by
    have hd : r.depth n = true := hd
    simp only [wpTr] at h
    cases ho : l.toArray[i]? with
    | none => rw [ho] at h; exact h.elim
    | some o =>
      simp only [ho] at h
      simp only [okTr, Bool.and_eq_true] at hB
      obtain ⟨⟨⟨⟨hr, hf⟩, hE⟩, hall⟩, hB'⟩ := hB
      have hr' : i ∈ Region.ready .any l.toArray listed := by simpa using hr
      have hE' : i ∉ E := by simpa using hE
      have hall' : ∀ e ∈ E, e ∈ Gd ∨ listed.getD e false = true ∨ ((masks l []).getD e 0).testBit i = true := by simpa [List.all_eq_true] using hall
      by_cases hw : Region.wanted o (yielded l.toArray a.tmps) = true
      · rw [if_pos hw] at h
        obtain ⟨hC, v, hv, hK⟩ := h
        exact anyE_first (D := C) ho hE' (Region.noSelect_spec hs) (fun ls => Closed l.toArray ls ∧ ∀ e ∈ E, e ∈ Gd ∨ ls.getD e false = true ∨ ((masks l []).getD e 0).testBit i = true)
          (fun ls j hI _ hj => ⟨hI.1.set hj, fun e he => (hI.2 e he).imp id (fun h => h.imp (fun h => getD_set_true h) id)⟩)
          (fun ls j hI hu hj he w' hCw => by
            rcases hI.2 j he with h1 | h1 | h1
            · exact hCw h1
            · exfalso; have h2 := (mem_ready.1 hj).1; rw [getD_both' h2] at h1; cases h1
            · exfalso; exact (waits_mask hI.1 (getD_both' hu) j h1).2 hj)
          n listed a w ⟨hc, hall'⟩ hC (Region.free_spec ho hf) hr' (.inl ⟨hw, hv⟩) (anyE_of_tree hs n r _ _ _ hd (hc.set hr') hB' hK)
      · rw [if_neg hw] at h
        exact anyE_first (D := fun _ => True) ho hE' (Region.noSelect_spec hs) (fun _ => True) (fun _ _ _ _ _ => trivial) (fun _ _ _ _ _ _ _ _ => trivial)
          n listed a w trivial trivial (Region.free_spec ho hf) hr' (.inr ⟨by simpa using hw, rfl⟩) (anyE_of_tree hs n r _ _ _ hd (hc.set hr') hB' h)
  | n + 1, .eff i r alts, listed, a, w, hd, hc, hB, h => by
    simp only [okTr, Bool.false_or, Bool.and_eq_true, decide_eq_true_eq] at hB
    obtain ⟨⟨⟨hr, hE⟩, hB'⟩, hA⟩ := hB
    simp only [Tr.depth, Bool.and_eq_true] at hd
    refine ⟨fun h0 => (by rw [h0] at hr; cases hr), fun j hj => ?_⟩
    obtain ⟨w1, w2⟩ := h
    have hj' := hj
    rw [hr] at hj'
    rcases List.mem_cons.1 hj' with rfl | hj2
    · exact opE_of_effW (by simpa using hE) w1 fun a' w' hh => anyE_of_tree hs n r _ _ _ hd.1 (hc.set hj) hB' hh
    · obtain ⟨r', k1, k2, k3, k4⟩ := alts_spec alts listed a w hA w2 j hj2
      exact opE_of_effW k1 k3 fun a' w' hh => anyE_of_tree hs n r' _ _ _ (k4 n (by cases alts <;> first | rfl | exact hd.2)) (hc.set hj) k2 hh
theorem wp_region_tree {id : Nat} {Q : Exit → Act → World → Prop} {a : Act} {w : World} {l : List Oper} (E Gd : List Nat) (t : Tr) (C : World → Prop) (hm : P.follows .mixedOrders = true) (hB : okTree l E Gd t = true)
    (h : wpTr P l.toArray (Q .normal) Gd C t false a { w with drawn := w.drawn + 1 }) : (Code.region id l.toArray true).wp P Q a w := by
  simp only [okTree, Bool.and_eq_true] at hB
  obtain ⟨⟨hs, hl⟩, hB'⟩ := hB
  refine wp_region_any hm ?_
  have := wpAny_of_anyE (Q := Q) (F := Q .normal) (fun _ _ h => h) _ _ _ _ (anyE_of_tree hs l.length t _ a _ hl (fun j oj _ hl => by rw [getD_replicate_false] at hl; cases hl) hB' h)
  simpa using this

variable {W0 : World} {n : Nat} {sl : Slots} {As Bs Cs : List Assn} {Q : Exit → Act → World → Prop} {op : Op} {ty : TypeId} {pos : String} {aft : Array Edge} {g : Option (Nat × Bool)} {i : Nat} {t u : Tr} {b : Bool}
def GT (P : Program) (W0 : World) (n : Nat) (ops : Array Oper) (Gd : List Nat) (t : Tr) (b : Bool) (sl : Slots) (As Cs : List Assn) (F : Act → World → Prop) : Prop :=
  ∀ a w, HasSl n sl a → St W0 As w → wpTr P ops F Gd (St W0 Cs) t b a w
theorem gt_split {j dj : Nat} {c : Bool} (_hj : (ops[j]?).bind (·.dst) = some dj) (_hv : slk sl dj = some (.bool c)) (h1 : c = true → GT P W0 n ops Gd t b sl As Cs F) (h2 : c = false → GT P W0 n ops Gd t b sl As Cs F) : GT P W0 n ops Gd t b sl As Cs F := by
  cases c; exact h2 rfl; exact h1 rfl
theorem gt_nil (h : GE W0 n sl As F) : GT P W0 n ops Gd .nil false sl As Cs F := h
theorem gt_imp (f : ∀ h, Sat As h → Sat Bs h) (h : GT P W0 n ops Gd t b sl Bs Cs F) : GT P W0 n ops Gd t b sl As Cs F := fun a w hs s => h a w hs (s.imp f)
theorem gt_alts (h : GT P W0 n ops Gd (.eff i t .nil) b sl As Cs F) (h2 : GT P W0 n ops Gd u true sl As Cs F) : GT P W0 n ops Gd (.eff i t u) b sl As Cs F := fun a w hs s => ⟨(h a w hs s).1, h2 a w hs s⟩
theorem gt_v {v : Value} {d : Nat} (ho : ops[i]? = some ⟨some d, op, ty, pos, aft, g⟩) (hw : Wn ops sl g true) (hd : Nat.blt d n = true) (hv : OV P W0 n op ty sl As v) (h : GT P W0 n ops Gd t false ((d, v) :: sl) As Cs F) : GT P W0 n ops Gd (.loc i t) b sl As Cs F :=
  fun a w hs s => by
    simp only [wpTr, ho, Wn.wanted (o := ⟨some d, op, ty, pos, aft, g⟩) hw hs, if_true]
    exact ⟨v, hv _ _ _ _ _ _ hs s, h _ _ (hs.put v hd) s⟩
theorem gt_vs {v : Value} {d : Nat} (ho : ops[i]? = some ⟨some d, op, ty, pos, aft, g⟩) (hw : Wn ops sl g true) (hd : Nat.blt d n = true) (hv : OV P W0 n op ty sl Cs v) (hc : ∀ h, Sat As h → Sat Cs h) (h : GT P W0 n ops Gd t false ((d, v) :: sl) As Cs F) : GT P W0 n ops Gd (.stab i t) b sl As Cs F :=
  fun a w hs s => by
    simp only [wpTr, ho, Wn.wanted (o := ⟨some d, op, ty, pos, aft, g⟩) hw hs, if_true]
    exact ⟨s.imp hc, v, fun w' s' => hv _ _ _ _ _ _ hs s', h _ _ (hs.put v hd) s⟩
theorem gt_v0 {v : Value} (ho : ops[i]? = some ⟨none, op, ty, pos, aft, g⟩) (hw : Wn ops sl g true) (hv : OV P W0 n op ty sl As v) (h : GT P W0 n ops Gd t false sl As Cs F) : GT P W0 n ops Gd (.loc i t) b sl As Cs F :=
  fun a w hs s => by
    simp only [wpTr, ho, Wn.wanted (o := ⟨none, op, ty, pos, aft, g⟩) hw hs, if_true]
    exact ⟨v, hv _ _ _ _ _ _ hs s, h _ _ hs s⟩
theorem gt_skipL {d : Nat} (ho : ops[i]? = some ⟨some d, op, ty, pos, aft, g⟩) (hw : Wn ops sl g false) (hd : Nat.blt d n = true) (h : GT P W0 n ops Gd t false ((d, undef) :: sl) As Cs F) : GT P W0 n ops Gd (.loc i t) b sl As Cs F :=
  fun a w hs s => by
    simp only [wpTr, ho, Wn.wanted (o := ⟨some d, op, ty, pos, aft, g⟩) hw hs, Bool.false_eq_true, if_false]
    exact h _ _ (hs.put undef hd) s
theorem gt_skipS {d : Nat} (ho : ops[i]? = some ⟨some d, op, ty, pos, aft, g⟩) (hw : Wn ops sl g false) (hd : Nat.blt d n = true) (h : GT P W0 n ops Gd t false ((d, undef) :: sl) As Cs F) : GT P W0 n ops Gd (.stab i t) b sl As Cs F :=
  fun a w hs s => by
    simp only [wpTr, ho, Wn.wanted (o := ⟨some d, op, ty, pos, aft, g⟩) hw hs, Bool.false_eq_true, if_false]
    exact h _ _ (hs.put undef hd) s
theorem gt_skipE {d : Nat} (ho : ops[i]? = some ⟨some d, op, ty, pos, aft, g⟩) (hw : Wn ops sl g false) (hd : Nat.blt d n = true) (h : GT P W0 n ops Gd t false ((d, undef) :: sl) As Cs F) : GT P W0 n ops Gd (.eff i t .nil) b sl As Cs F :=
  fun a w hs s => by
    refine ⟨?_, trivial⟩
    simp only [effW, ho, Wn.wanted (o := ⟨some d, op, ty, pos, aft, g⟩) hw hs, Bool.false_eq_true, if_false]
    exact h _ _ (hs.put undef hd) s
theorem gt_skip0E (ho : ops[i]? = some ⟨none, op, ty, pos, aft, g⟩) (hw : Wn ops sl g false) (h : GT P W0 n ops Gd t false sl As Cs F) : GT P W0 n ops Gd (.eff i t .nil) b sl As Cs F :=
  fun a w hs s => by
    refine ⟨?_, trivial⟩
    simp only [effW, ho, Wn.wanted (o := ⟨none, op, ty, pos, aft, g⟩) hw hs, Bool.false_eq_true, if_false]
    exact h _ _ hs s
theorem gt_ve {v : Value} {d : Nat} (ho : ops[i]? = some ⟨some d, op, ty, pos, aft, g⟩) (hw : Wn ops sl g true) (hd : Nat.blt d n = true) (hv : OV P W0 n op ty sl As v) (hc : i ∈ Gd → ∀ h, Sat As h → Sat Cs h) (h : GT P W0 n ops Gd t false ((d, v) :: sl) As Cs F) : GT P W0 n ops Gd (.eff i t .nil) b sl As Cs F :=
  fun a w hs s => by
    refine ⟨?_, trivial⟩
    simp only [effW, ho, Wn.wanted (o := ⟨some d, op, ty, pos, aft, g⟩) hw hs, if_true, Oper.wp, hv _ _ _ _ _ _ hs s, Oper.upon]
    exact ⟨fun hG => s.imp (hc hG), h _ _ (hs.put v hd) s⟩
theorem gt_u (ho : ops[i]? = some ⟨none, op, ty, pos, aft, g⟩) (hw : Wn ops sl g true) (hv : OU P W0 n op ty sl As Bs) (hc : i ∈ Gd → ∀ h, Sat Bs h → Sat Cs h) (h : GT P W0 n ops Gd t false sl Bs Cs F) : GT P W0 n ops Gd (.eff i t .nil) b sl As Cs F :=
  fun a w hs s => by
    refine ⟨?_, trivial⟩
    obtain ⟨w', hr, s'⟩ := hv a w none pos aft g hs s
    simp only [effW, ho, Wn.wanted (o := ⟨none, op, ty, pos, aft, g⟩) hw hs, if_true, Oper.wp, hr, Oper.upon]
    exact ⟨fun hG => s'.imp (hc hG), h _ _ hs s'⟩
theorem gt_n {d : Nat} {p : Value → List Assn → Prop} (ho : ops[i]? = some ⟨some d, op, ty, pos, aft, g⟩) (hw : Wn ops sl g true) (hd : Nat.blt d n = true) (hv : ON P W0 n op ty sl As p) (h : ∀ v Bs, p v Bs → (i ∈ Gd → ∀ h, Sat Bs h → Sat Cs h) ∧ GT P W0 n ops Gd t false ((d, v) :: sl) Bs Cs F) : GT P W0 n ops Gd (.eff i t .nil) b sl As Cs F :=
  fun a w hs s => by
    refine ⟨?_, trivial⟩
    obtain ⟨v, Bs, w', hr, hp, s'⟩ := hv a w (some d) pos aft g hs s
    simp only [effW, ho, Wn.wanted (o := ⟨some d, op, ty, pos, aft, g⟩) hw hs, if_true, Oper.wp, hr, Oper.upon]
    exact ⟨fun hG => s'.imp ((h v Bs hp).1 hG), (h v Bs hp).2 _ _ (hs.put v hd) s'⟩
theorem gt_c {d : Nat} {p : Value → List Assn → Prop} (ho : ops[i]? = some ⟨some d, op, ty, pos, aft, g⟩) (hw : Wn ops sl g true) (hd : Nat.blt d n = true) (hv : OC P W0 n op ty sl As p) (h : ∀ v Bs, p v Bs → (i ∈ Gd → ∀ h, Sat Bs h → Sat Cs h) ∧ GT P W0 n ops Gd t false ((d, v) :: sl) Bs Cs F) : GT P W0 n ops Gd (.eff i t .nil) b sl As Cs F :=
  fun a w hs s => by
    refine ⟨?_, trivial⟩
    obtain ⟨f, args, hr, hcl⟩ := hv a w (some d) pos aft g hs s
    simp only [effW, ho, Wn.wanted (o := ⟨some d, op, ty, pos, aft, g⟩) hw hs, if_true, Oper.wp, hr, Oper.upon]
    exact hcl.mono fun e w' ⟨v, Bs, he, hp, s'⟩ => by subst he; exact ⟨fun hG => s'.imp ((h v Bs hp).1 hG), (h v Bs hp).2 _ _ (hs.put v hd) s'⟩
/-! ### branches that meet again -/
/-- slots that are kept, whatever comes on top -/
def KeepS (sl sl2 : Slots) : Prop := ∀ t v, slk sl t = some v → slk sl2 t = some v
theorem KeepS.refl (sl : Slots) : KeepS sl sl := fun _ _ h => h
theorem KeepS.push {sl sl2 : Slots} {k : Nat} {v : Value} (h : KeepS sl sl2) (hf : slk sl k = none) : KeepS sl ((k, v) :: sl2) := fun t u e => by
  simp only [slk]
  cases hb : Nat.beq k t with
  | true => have := Nat.eq_of_beq_eq_true hb; subst this; rw [hf] at e; cases e
  | false => simpa using h t u e
theorem KeepS.top {sl sl2 : Slots} {d : Nat} {v : Value} (h : KeepS sl sl2) (hv : slk sl2 d = some v) : KeepS ((d, v) :: sl) sl2 := fun t u e => by
  simp only [slk] at e
  cases hb : Nat.beq d t with
  | true => rw [hb] at e; have := Nat.eq_of_beq_eq_true hb; subst this; simp at e; subst e; exact hv
  | false => rw [hb] at e; exact h t u (by simpa using e)
theorem HasSl.keepS {r : Slots} {a : Act} (h : HasSl n sl a) (k : KeepS r sl) : HasSl n r a := ⟨h.size, h.defers, fun _ _ e => h.val _ _ (k _ _ e)⟩
theorem gt_join {d : Nat} {u : Tr} (t : Tr) (v : Value) (k : GT P W0 n ops Gd t false ((d, v) :: sl) As Cs F) (h : (∀ sl2, KeepS ((d, v) :: sl) sl2 → GT P W0 n ops Gd t false sl2 As Cs F) → GT P W0 n ops Gd u b sl As Cs F) : GT P W0 n ops Gd u b sl As Cs F :=
  h fun _ hk a w hs s => k a w (hs.keepS hk) s
theorem gl_join {d : Nat} {l : List Oper} (m : Nat) (v : Value) (k : GL P W0 n ops (l.drop m) ((d, v) :: sl) As Q) (h : (∀ sl2, KeepS ((d, v) :: sl) sl2 → GL P W0 n ops (l.drop m) sl2 As Q) → GL P W0 n ops l sl As Q) : GL P W0 n ops l sl As Q :=
  h fun _ hk a w hs s => k a w (hs.keepS hk) s
theorem gt_keep {r : Slots} (k : Keep r sl) (h : GT P W0 n ops Gd t b r As Cs F) : GT P W0 n ops Gd t b sl As Cs F := fun a w hs s => h a w (hs.keep k) s
theorem gl_keep {r : Slots} {l : List Oper} (k : Keep r sl) (h : GL P W0 n ops l r As Q) : GL P W0 n ops l sl As Q := fun a w hs s => h a w (hs.keep k) s
theorem jval {a b : Bool} (h : a = b) : some (Value.bool a) = some (Value.bool b) := by rw [h]
theorem g_tree {id : Nat} {l : List Oper} (E Gd : List Nat) (t : Tr) (Cs : List Assn) (hm : P.follows .mixedOrders = true) (hB : okTree l E Gd t = true)
    (h : GT P W0 n l.toArray Gd t false sl As Cs (Q .normal)) : G P W0 n (.region id l.toArray true) sl As Q :=
  fun a w hs s => wp_region_tree E Gd t _ hm hB (h a _ hs s.drew)
/-! ### the same look, by masks: for regions of many operations -/
structure MR where
  dm : Nat
  rm : Nat
  af : Nat
  an : Nat
def dmask (o : Oper) : Nat := match o.dst with
  | some d => 2 ^ d
  | none => 0
def orL : List Nat → Nat
  | [] => 0
  | t :: r => 2 ^ t ||| orL r
def amask (o : Oper) : Nat := orL ((o.after.toList.filter fun e => Region.binds .any e).map (·.on))
def rowsG (ops : Array Oper) : List Oper → List Nat → List MR
  | [], _ => []
  | o :: r, [] => ⟨dmask o, orL (o.looksAt ops), amask o, 0⟩ :: rowsG ops r []
  | o :: r, a :: as => ⟨dmask o, orL (o.looksAt ops), amask o, a⟩ :: rowsG ops r as
def rowsOf (l : List Oper) : List MR := rowsG l.toArray l (masks l [])
def isRd (r : MR) (m j : Nat) : Bool := !m.testBit j && Nat.beq (r.af &&& m) r.af
def readyG (m : Nat) : List MR → Nat → List Nat
  | [], _ => []
  | r :: rs, j => cond (isRd r m j) (j :: readyG m rs (j + 1)) (readyG m rs (j + 1))
def freeG (ri : MR) (m i : Nat) : List MR → Nat → Bool
  | [], _ => true
  | r :: rs, j => (Nat.beq j i || (m.testBit j || (r.af.testBit i || (Nat.beq (ri.dm &&& r.rm) 0 && (Nat.beq (ri.dm &&& r.dm) 0 && Nat.beq (r.dm &&& ri.rm) 0))))) && freeG ri m i rs (j + 1)
def okM (rs : List MR) (E Gd : List Nat) : Tr → Bool → Nat → Bool
  | .nil, false, m => (readyG m rs 0).isEmpty
  | .nil, true, _ => true
  | .loc i r, false, m => (match rs[i]? with | some ri => isRd ri m i && freeG ri m i rs 0 | none => false) && !E.contains i && E.all (fun e => m.testBit e || (match rs[e]? with | some re => re.an.testBit i | none => false)) && okM rs E Gd r false (m ||| 2 ^ i)
  | .stab i r, false, m => (match rs[i]? with | some ri => isRd ri m i && freeG ri m i rs 0 | none => false) && !E.contains i && E.all (fun e => Gd.contains e || (m.testBit e || (match rs[e]? with | some re => re.an.testBit i | none => false))) && okM rs E Gd r false (m ||| 2 ^ i)
  | .eff i r alts, b, m => (b || decide (readyG m rs 0 = i :: alts.heads)) && E.contains i && (match rs[i]? with | some ri => isRd ri m i | none => false) && okM rs E Gd r false (m ||| 2 ^ i) && okM rs E Gd alts true m
  | _, true, _ => false
def okTreeM (l : List Oper) (E Gd : List Nat) (t : Tr) : Bool :=
  Region.noSelect l.toArray && t.depth l.length && okM (rowsOf l) E Gd t false 0
theorem orL_bit {i : Nat} : ∀ (l : List Nat), (orL l).testBit i = true ↔ i ∈ l
  | [] => by simp [orL]
  | t :: r => by
    rw [orL, Nat.testBit_or, Nat.testBit_two_pow, Bool.or_eq_true, orL_bit r, List.mem_cons, decide_eq_true_eq]
    constructor
    · rintro (h | h); exact .inl h.symm; exact .inr h
    · rintro (h | h); exact .inl h.symm; exact .inr h
theorem amask_bit {o : Oper} {i : Nat} : (amask o).testBit i = true ↔ ∃ e ∈ o.after, Region.binds .any e = true ∧ e.on = i := by
  unfold amask; rw [orL_bit]; simp [List.mem_map, List.mem_filter, and_assoc]
theorem land_sub {a m : Nat} (h : Nat.beq (a &&& m) a = true) {i : Nat} (ha : a.testBit i = true) : m.testBit i = true := by
  have h' := Nat.eq_of_beq_eq_true h
  rw [← h', Nat.testBit_and, Bool.and_eq_true] at ha; exact ha.2
theorem land_zero {a b : Nat} (h : Nat.beq (a &&& b) 0 = true) {i : Nat} (ha : a.testBit i = true) : b.testBit i = false := by
  have h' := Nat.eq_of_beq_eq_true h
  have := congrArg (fun n => n.testBit i) h'
  simp [Nat.testBit_and, ha] at this; exact this
theorem sub_land {a m : Nat} (h : ∀ i, a.testBit i = true → m.testBit i = true) : Nat.beq (a &&& m) a = true := by
  have : a &&& m = a := Nat.eq_of_testBit_eq fun i => by
    rw [Nat.testBit_and]
    cases ha : a.testBit i with
    | false => rfl
    | true => rw [h i ha]; rfl
  rw [this]; exact Nat.beq_refl _
theorem rowsG_get (ops : Array Oper) : ∀ (l : List Oper) (as : List Nat) (i : Nat) (r : MR), (rowsG ops l as)[i]? = some r ↔ ∃ o, l[i]? = some o ∧ r = ⟨dmask o, orL (o.looksAt ops), amask o, as.getD i 0⟩
  | [], _, i, r => by simp [rowsG]
  | o :: l, [], 0, r => by simp [rowsG, eq_comm]
  | o :: l, a :: as, 0, r => by simp [rowsG, eq_comm]
  | o :: l, [], i + 1, r => by simp only [rowsG, List.getElem?_cons_succ]; rw [rowsG_get ops l [] i r]; simp
  | o :: l, a :: as, i + 1, r => by simp only [rowsG, List.getElem?_cons_succ]; rw [rowsG_get ops l as i r]; simp
theorem rows_get {l : List Oper} {i : Nat} {r : MR} (h : (rowsOf l)[i]? = some r) : ∃ o, l[i]? = some o ∧ r = ⟨dmask o, orL (o.looksAt l.toArray), amask o, (masks l []).getD i 0⟩ := (rowsG_get _ _ _ _ _).1 h
theorem rows_at {l : List Oper} {i : Nat} {o : Oper} (h : l[i]? = some o) : (rowsOf l)[i]? = some ⟨dmask o, orL (o.looksAt l.toArray), amask o, (masks l []).getD i 0⟩ := (rowsG_get _ _ _ _ _).2 ⟨o, h, rfl⟩
structure Rep (l : List Oper) (m : Nat) (listed : Array Bool) : Prop where
  size : listed.size = l.length
  bit : ∀ j, listed.getD j false = m.testBit j
theorem Rep.get {l : List Oper} {m : Nat} {listed : Array Bool} (h : Rep l m listed) {j : Nat} (hj : j < l.length) : listed.getD j true = m.testBit j := by
  rw [← h.bit j]
  have : j < listed.size := by rw [h.size]; exact hj
  simp [Array.getD_eq_getD_getElem?, this]
theorem Rep.set {l : List Oper} {m : Nat} {listed : Array Bool} (h : Rep l m listed) {i : Nat} (hi : i < l.length) : Rep l (m ||| 2 ^ i) (listed.setIfInBounds i true) := by
  refine ⟨by rw [Array.size_setIfInBounds]; exact h.size, fun j => ?_⟩
  rw [Nat.testBit_or, Nat.testBit_two_pow, ← h.bit j]
  have hs : i < listed.size := by rw [h.size]; exact hi
  by_cases hij : i = j
  · subst hij; simp [Array.getD_eq_getD_getElem?, Array.getElem?_setIfInBounds, hs]
  · simp [Array.getD_eq_getD_getElem?, Array.getElem?_setIfInBounds, hij]
theorem isRd_iff {l : List Oper} {m : Nat} {listed : Array Bool} (h : Rep l m listed) {i : Nat} {o : Oper} (ho : l[i]? = some o) (rm an dm : Nat) : isRd ⟨dm, rm, amask o, an⟩ m i = true ↔ i ∈ Region.ready .any l.toArray listed := by
  have hi := (List.getElem?_eq_some_iff.1 ho).1
  rw [mem_ready, h.get hi]
  unfold isRd
  rw [Bool.and_eq_true, Bool.not_eq_true']
  refine and_congr_right fun _ => ⟨fun h2 => ⟨o, by simpa using ho, fun e he hb => ?_⟩, fun ⟨o', ho', hall⟩ => sub_land fun j hj => ?_⟩
  · rw [h.bit]; exact land_sub h2 (amask_bit.2 ⟨e, he, hb, rfl⟩)
  · have : o' = o := by have ho'' : l[i]? = some o' := by simpa using ho'
                        exact Option.some.inj (ho''.symm.trans ho)
    subst this
    obtain ⟨e, he, hb, rfl⟩ := amask_bit.1 hj
    rw [← h.bit]; exact hall e he hb
theorem readyG_eq {m : Nat} {p : Nat → Bool} : ∀ (rs : List MR) (k : Nat), (∀ j r, rs[j]? = some r → isRd r m (k + j) = p (k + j)) → readyG m rs k = (List.range' k rs.length).filter p
  | [], _, _ => rfl
  | r :: rs, k, h => by
    have h0 := h 0 r rfl
    have ih := readyG_eq rs (k + 1) (fun j r hj => by have := h (j + 1) r (by simpa using hj); rwa [show k + (j + 1) = k + 1 + j by omega] at this)
    simp only [Nat.add_zero] at h0
    rw [readyG, List.length_cons, List.range'_succ, List.filter_cons, h0, ih]
    cases p k <;> rfl
theorem ready_eq {l : List Oper} {m : Nat} {listed : Array Bool} (h : Rep l m listed) : readyG m (rowsOf l) 0 = Region.ready .any l.toArray listed := by
  have hl : (rowsOf l).length = l.length := by
    have key : ∀ (ops : Array Oper) (l : List Oper) (as : List Nat), (rowsG ops l as).length = l.length := by
      intro ops l
      induction l with
      | nil => intro as; rfl
      | cons o l ih => intro as; cases as <;> simp [rowsG, ih]
    exact key _ _ _
  have hr : Region.ready .any l.toArray listed = (List.range l.toArray.size).filter (fun i => !listed.getD i true && ((l.toArray[i]?).map (·.after.all fun e => !Region.binds .any e || listed.getD e.on false)).getD false) := rfl
  rw [hr, List.range_eq_range', readyG_eq (rowsOf l) 0 (p := fun i => !listed.getD i true && ((l.toArray[i]?).map (·.after.all fun e => !Region.binds .any e || listed.getD e.on false)).getD false), hl, List.size_toArray]
  intro j r hj
  obtain ⟨o, ho, rfl⟩ := rows_get hj
  rw [Nat.zero_add, Bool.eq_iff_iff, isRd_iff h ho, hr, List.mem_filter, List.mem_range]
  have := (List.getElem?_eq_some_iff.1 ho).1
  simp [this]
theorem freeG_spec {m i : Nat} {ri : MR} : ∀ (rs : List MR) (k : Nat), freeG ri m i rs k = true → ∀ j r, rs[j]? = some r → (k + j = i ∨ m.testBit (k + j) = true ∨ r.af.testBit i = true ∨ (Nat.beq (ri.dm &&& r.rm) 0 = true ∧ Nat.beq (ri.dm &&& r.dm) 0 = true ∧ Nat.beq (r.dm &&& ri.rm) 0 = true))
  | [], _, _, j, r, hj => by simp at hj
  | r0 :: rs, k, h, j, r, hj => by
    simp only [freeG, Bool.and_eq_true, Bool.or_eq_true] at h
    cases j with
    | zero =>
      simp at hj; subst hj
      rcases h.1 with h1 | h1 | h1 | h1
      · exact .inl (by rw [Nat.add_zero]; exact Nat.eq_of_beq_eq_true h1)
      · exact .inr (.inl h1)
      · exact .inr (.inr (.inl h1))
      · exact .inr (.inr (.inr ⟨h1.1, h1.2.1, h1.2.2⟩))
    | succ j =>
      have := freeG_spec rs (k + 1) h.2 j r (by simpa using hj)
      rwa [show k + 1 + j = k + (j + 1) by omega] at this
theorem free_of {l : List Oper} {m : Nat} {listed : Array Bool} (h : Rep l m listed) {i : Nat} {ri : MR} (hi : (rowsOf l)[i]? = some ri) (hf : freeG ri m i (rowsOf l) 0 = true) : Region.free .any l.toArray listed i = true := by
  obtain ⟨oi, hoi, rfl⟩ := rows_get hi
  have hoi' : l.toArray[i]? = some oi := by simpa using hoi
  unfold Region.free
  simp only [hoi', List.all_eq_true, List.mem_range]
  intro j hj
  have hjl : j < l.length := by simpa using hj
  obtain ⟨oj, hoj⟩ : ∃ oj, l[j]? = some oj := ⟨_, List.getElem?_eq_getElem hjl⟩
  have hoj' : l.toArray[j]? = some oj := by simpa using hoj
  have := freeG_spec _ _ hf j _ (rows_at hoj)
  rw [Nat.zero_add] at this
  simp only [hoj', Bool.or_eq_true, beq_iff_eq]
  rcases this with h1 | h1 | h1 | ⟨h1, h2, h3⟩
  · exact .inl (.inl h1)
  · exact .inl (.inr (by rw [h.get hjl]; exact h1))
  · obtain ⟨e, he, hb, heq⟩ := amask_bit.1 h1
    exact .inr (.inl (by rw [Array.any_eq_true']; exact ⟨e, he, by simp [hb, heq]⟩))
  · refine .inr (.inr ?_)
    unfold Oper.apart
    have db : ∀ (o : Oper) d, o.dst = some d → (dmask o).testBit d = true := fun o d hd => by unfold dmask; rw [hd]; simp
    rw [Bool.and_eq_true]
    constructor
    · cases hd : oi.dst with
      | none => rfl
      | some d =>
        simp only [Bool.and_eq_true, Bool.not_eq_true', bne_iff_ne]
        have hb := db oi d hd
        constructor
        · have := land_zero h1 hb
          cases hc : (oj.looksAt l.toArray).contains d with
          | false => rfl
          | true => rw [(orL_bit _).2 (by simpa using hc)] at this; cases this
        · intro hd2
          have := land_zero h2 hb
          rw [db oj d hd2] at this; cases this
    · cases hd : oj.dst with
      | none => rfl
      | some d =>
        simp only [Bool.not_eq_true']
        have := land_zero h3 (db oj d hd)
        cases hc : (oi.looksAt l.toArray).contains d with
        | false => rfl
        | true => rw [(orL_bit _).2 (by simpa using hc)] at this; cases this
theorem okM_sound {l : List Oper} {E Gd : List Nat} : ∀ (t : Tr) (b : Bool) (m : Nat) (listed : Array Bool), Rep l m listed → okM (rowsOf l) E Gd t b m = true → okTr l.toArray (masks l []) E Gd t b listed = true
  | .nil, false, m, listed, h, hk => by
    simp only [okM] at hk; simp only [okTr]; rw [← ready_eq h]; exact hk
  | .nil, true, _, _, _, _ => rfl
  | .loc i r, true, _, _, _, hk => by simp [okM] at hk
  | .stab i r, true, _, _, _, hk => by simp [okM] at hk
  | .loc i r, false, m, listed, h, hk => by
    simp only [okM, Bool.and_eq_true] at hk
    obtain ⟨⟨⟨h1, h2⟩, h3⟩, h4⟩ := hk
    cases hi : (rowsOf l)[i]? with
    | none => rw [hi] at h1; cases h1
    | some ri =>
      rw [hi] at h1
      simp only [Bool.and_eq_true] at h1
      obtain ⟨oi, hoi, hri⟩ := rows_get hi
      have hlt := (List.getElem?_eq_some_iff.1 hoi).1
      simp only [okTr, Bool.and_eq_true]
      refine ⟨⟨⟨⟨?_, free_of h hi h1.2⟩, h2⟩, ?_⟩, okM_sound r false _ _ (h.set hlt) h4⟩
      · rw [hri] at h1; simpa using (isRd_iff h hoi _ _ _).1 h1.1
      · rw [List.all_eq_true] at h3 ⊢
        intro e he
        have := h3 e he
        rw [Bool.or_eq_true] at this ⊢
        rw [h.bit]
        refine this.imp id fun h5 => ?_
        cases hre : (rowsOf l)[e]? with
        | none => rw [hre] at h5; cases h5
        | some re => rw [hre] at h5; obtain ⟨oe, _, rfl⟩ := rows_get hre; exact h5
  | .stab i r, false, m, listed, h, hk => by
    simp only [okM, Bool.and_eq_true] at hk
    obtain ⟨⟨⟨h1, h2⟩, h3⟩, h4⟩ := hk
    cases hi : (rowsOf l)[i]? with
    | none => rw [hi] at h1; cases h1
    | some ri =>
      rw [hi] at h1
      simp only [Bool.and_eq_true] at h1
      obtain ⟨oi, hoi, hri⟩ := rows_get hi
      have hlt := (List.getElem?_eq_some_iff.1 hoi).1
      simp only [okTr, Bool.and_eq_true]
      refine ⟨⟨⟨⟨?_, free_of h hi h1.2⟩, h2⟩, ?_⟩, okM_sound r false _ _ (h.set hlt) h4⟩
      · rw [hri] at h1; simpa using (isRd_iff h hoi _ _ _).1 h1.1
      · rw [List.all_eq_true] at h3 ⊢
        intro e he
        have := h3 e he
        rw [Bool.or_eq_true, Bool.or_eq_true] at this ⊢
        rw [h.bit]
        refine this.imp id fun h6 => h6.imp id fun h5 => ?_
        cases hre : (rowsOf l)[e]? with
        | none => rw [hre] at h5; cases h5
        | some re => rw [hre] at h5; obtain ⟨oe, _, rfl⟩ := rows_get hre; exact h5
  | .eff i r alts, b, m, listed, h, hk => by
    simp only [okM, Bool.and_eq_true] at hk
    obtain ⟨⟨⟨⟨h1, h2⟩, h3⟩, h4⟩, h5⟩ := hk
    cases hi : (rowsOf l)[i]? with
    | none => rw [hi] at h3; cases h3
    | some ri =>
      obtain ⟨oi, hoi, hri⟩ := rows_get hi
      have hlt := (List.getElem?_eq_some_iff.1 hoi).1
      simp only [okTr, Bool.and_eq_true]
      exact ⟨⟨⟨by rw [← ready_eq h]; exact h1, h2⟩, okM_sound r false _ _ (h.set hlt) h4⟩, okM_sound alts true _ _ h h5⟩
theorem okTreeM_sound {l : List Oper} {E Gd : List Nat} {t : Tr} (h : okTreeM l E Gd t = true) : okTree l E Gd t = true := by
  simp only [okTreeM, Bool.and_eq_true] at h
  simp only [okTree, Bool.and_eq_true]
  exact ⟨h.1, okM_sound t false 0 _ ⟨by simp, fun j => by simp [Array.getD_eq_getD_getElem?, Array.getElem?_replicate]; split <;> rfl⟩ h.2⟩
theorem g_treeM {id : Nat} {l : List Oper} (E Gd : List Nat) (t : Tr) (Cs : List Assn) (hm : P.follows .mixedOrders = true) (hB : okTreeM l E Gd t = true)
    (h : GT P W0 n l.toArray Gd t false sl As Cs (Q .normal)) : G P W0 n (.region id l.toArray true) sl As Q := g_tree E Gd t Cs hm (okTreeM_sound hB) h
end
end Go.L
