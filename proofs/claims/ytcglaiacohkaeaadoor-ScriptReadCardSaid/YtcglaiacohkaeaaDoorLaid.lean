/-
  What listed package-level variables hold, cell by cell. Own work; it speaks of no program.
-/
import Derived.Test.YtcglaiacohkaeaaDoorErr
import Derived.LaidLaws
import Derived.LaidHandle
import Derived.Lib.LaidTab
set_option linter.unusedSimpArgs false
set_option linter.unusedVariables false
set_option linter.unusedSectionVars false
namespace Go.L
theorem laid_mem {P : Program} {w : World} : ∀ {l : List (String × DataW Unit)} {ps : List MemPlace}, DataW.LaidVars P w l ps → ∀ x ∈ l, ∃ g t cs fuel p, P.globalNamed x.1 = some g ∧ (P.globals[g]?).map (·.type) = some t ∧ w.var? P x.1 = some cs ∧ DataW.trod (fun _ => ()) P w 0 (fun _ => true) false fuel t cs.toList = some (x.2, p)
  | [], _, _, _, hx => by cases hx
  | (n, d) :: r, ps, h, x, hx => by
    obtain ⟨g, t, cs, fuel, p, q, h1, h2, h3, h4, h5, _⟩ := h
    rcases List.mem_cons.1 hx with rfl | hx
    · exact ⟨g, t, cs, fuel, p, h1, h2, h3, h4⟩
    · exact laid_mem h5 x hx
theorem laid_iface {P : Program} {W : World} {l : List (String × DataW Unit)} (h : laidMet P l W) {n nm : String} {d : DataW Unit} (hx : (n, .iface nm d) ∈ l) {g : Nat} {t : TypeId} {ms : Array (String × TypeId)} (hg : P.globalNamed n = some g) (ht : (P.globals[g]?).map (·.type) = some t) (hi : P.underlying t = some (.interface ms)) :
    ∃ u v, W.cell? ⟨g, 0, none⟩ = some (.iface u v) := by
  obtain ⟨ps, h1, _⟩ := h
  obtain ⟨g', t', cs, fuel, p, h2, h3, h4, h5⟩ := laid_mem h1 _ hx
  obtain rfl := Option.some.inj (hg.symm.trans h2)
  obtain rfl := Option.some.inj (ht.symm.trans h3)
  obtain ⟨f, u, v, hc, _, _⟩ := iface_of_trod hi h5
  obtain ⟨l0⟩ := cs
  simp only at hc
  subst hc
  exact ⟨u, v, by simpa using World.var?_cell hg h4 0⟩
theorem laid_tab {P : Program} {W : World} {l : List (String × DataW Unit)} (h : laidMet P l W) {nm : String} {k : IntKind} {zs : List Int} (hx : (nm, Lib.tabData k zs) ∈ l) {g : Nat} {t e : TypeId} {n : Nat} (hg : P.globalNamed nm = some g) (hty : (P.globals[g]?).map (·.type) = some t)
    (ht : P.underlying t = some (.array n e)) (he : P.underlying e = some (.int k)) (hce : P.cellsOf e = 1) (hct : P.cellsOf t = n) : Lib.TabIs P W nm k zs := by
  obtain ⟨ps, h1, _⟩ := h
  obtain ⟨g', t', cs, fuel, p, h2, h3, h4, h5⟩ := laid_mem h1 _ hx
  obtain rfl := Option.some.inj (hg.symm.trans h2)
  obtain rfl := Option.some.inj (hty.symm.trans h3)
  unfold Lib.TabIs
  rw [h4, ← Lib.cells_of_tab ht he hce hct h5]
/-- what a variable holds is the same as long as its memory stands -/
theorem tab_base {P : Program} {W W0 w : World} {R : List Assn} {nm : String} {k : IntKind} {zs : List Int} (h : Lib.TabIs P W nm k zs) (s : St W0 (base W :: R) w) : Lib.TabIs P w nm k zs := by
  unfold Lib.TabIs World.var? at *
  obtain ⟨h1, h2, d, e, hb, _⟩ := s.sat
  cases hg : P.globalNamed nm with
  | none => rw [hg] at h; cases h
  | some g =>
    rw [hg] at h
    simp only [Option.bind_some] at h ⊢
    cases hw : W.heap[g]? with
    | none => rw [hw] at h; cases h
    | some o =>
      rw [hw] at h
      have hlt : g < W.heap.size := by
        rcases Nat.lt_or_ge g W.heap.size with x | x
        · exact x
        · rw [Array.getElem?_eq_none x] at hw; cases hw
      have h3 : h1 g = some o := (hb g hlt).trans hw
      have h4 : w.heap[g]? = some o := by
        have : hpOf w g = some o := by rw [e]; exact join_some h3
        exact this
      rw [h4]; exact h
theorem laid_handle {P : Program} {W : World} {hs : List (String × DataW Unit)} (h : handlesMet P hs W) {n : String} {d : DataW Unit} (hx : (n, d) ∈ hs) (hf : d.funcsIn? = none) {name : List UInt8} (hn : d.handleName? = some name) {g u N e : Nat} (hg : P.globalNamed n = some g) (hu : (P.cutTypes.find? (·.1 == "internal/reflectlite.rtype")).map (·.2) = some u)
    (hN : P.types.size = N) (h1 : ((List.range N).filter fun t => P.rowNamed t name) = [e]) : W.cell? ⟨g, 0, none⟩ = some (.iface u (.agg #[typeHandle P e])) := by
  have h2 := h _ hx
  simp only [hf] at h2
  obtain ⟨name', u', ty, e1, e2, e3, e4, e5⟩ := h2
  obtain rfl := Option.some.inj (hn.symm.trans e1)
  obtain rfl := Option.some.inj (hu.symm.trans e2)
  have hm : ty ∈ (List.range N).filter fun t => P.rowNamed t name := List.mem_filter.2 ⟨List.mem_range.2 (by rw [← hN]; exact e3), e4⟩
  rw [h1] at hm
  obtain rfl := List.mem_singleton.1 hm
  simpa using World.var?_cell hg e5 0
theorem laid_split {P : Program} {W : World} {l rest hs : List (String × DataW Unit)} {x : String × DataW Unit} (h : laidMetH P l W) (e1 : (l.filter fun x => x.2.handleName?.isSome) = x :: hs) (e2 : (l.filter fun x => x.2.handleName?.isNone) = rest) : laidMet P rest W ∧ handlesMet P (x :: hs) W := by
  unfold laidMetH at h
  rw [e1, e2] at h
  exact h
theorem laid_plain {P : Program} {W : World} {l : List (String × DataW Unit)} (h : laidMetH P l W) (e1 : (l.filter fun x => x.2.handleName?.isSome) = []) : laidMet P l W := by
  unfold laidMetH at h
  rw [e1] at h
  exact h
end Go.L
