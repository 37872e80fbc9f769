/-
  Contracts turned: hidden memory opened, results said otherwise; a part of a family read; results that lie in cells. Own work; it speaks of no program.
-/
import Derived.Test.YtcglaiacohkaeaaDoorIface
set_option linter.unusedSimpArgs false
set_option linter.unusedVariables false
set_option linter.unusedSectionVars false
namespace Go.L
section
variable {P : Program} {f : FuncId} {args : List Value} {post post' : Value → List Assn → Prop}
theorem sat_app {Bs Bs' R : List Assn} (i : ∀ h, Sat Bs h → Sat Bs' h) : ∀ h, Sat (Bs ++ R) h → Sat (Bs' ++ R) h := fun _ s =>
  let ⟨_, _, d, e, a, b⟩ := Sat.split s; e ▸ Sat.append d (i _ a) b
theorem FnS.wk {As : List Assn} (h : FnS P f args As post) (g : ∀ v Bs, post v Bs → ∃ Bs', post' v Bs' ∧ ∀ h, Sat Bs h → Sat Bs' h) : FnS P f args As post' := fun W0 R w s =>
  (h W0 R w s).mono fun _ _ ⟨v, Bs, e, p, s⟩ => let ⟨Bs', p', i⟩ := g v Bs p; ⟨v, Bs', e, p', s.imp (sat_app i)⟩
theorem FnS.pre {As As' : List Assn} (h : FnS P f args As post) (i : ∀ h, Sat As' h → Sat As h) : FnS P f args As' post := fun W0 R w s => h W0 R w (s.imp (sat_app i))
theorem fns_open {ι : Type} {φ : ι → Prop} {l : ι → List Assn} (h : ∀ x, φ x → FnS P f args (l x) post) : FnS P f args [exA φ l] post := fun W0 R w s => by
  obtain ⟨x, hx, sx⟩ := ex_open (R := R) s.sat
  exact h x hx W0 R w ⟨s.os, s.tape, s.output, s.size, sx⟩
theorem fns_flat {l : List Assn} (h : FnS P f args l post) : FnS P f args [starL l] post := fun W0 R w s => h W0 R w (s.imp fun _ => Sat.flat.1)
theorem ex_in {ι : Type} {φ : ι → Prop} {l : ι → List Assn} {Bs : List Assn} (x : ι) (p : φ x) (t : ∀ h, Sat Bs h → Sat (l x) h) : ∀ h, Sat Bs h → Sat [exA φ l] h := fun h s => Sat.one ⟨x, p, t h s⟩
end
/-- what a family's member lets be read -/
class InF (l : List Assn) (v : Value) (n : outParam Nat) (xs : outParam (List Value)) : Prop where
  out : ∃ (i : Nat) (e : TypeId) (sz : Nat), l[i]? = some (own v e sz n xs)
instance RdA.ofFam {l : List Assn} {v : Value} {n : Nat} {xs : List Value} [i : InF l v n xs] : RdA v (fam l) n xs where
  get := fun {h} ha => by
    obtain ⟨i, e, sz, hi⟩ := i.out
    have hs : Sat (fam l :: []) h := Sat.one ha
    obtain ⟨h1, h2, _, he, ho, _⟩ := fam_open hi h hs
    rw [he]; exact (SlO.rd ho).more
/-- a result that lies in a cell -/
theorem cell_res {P : Program} {W0 w : World} {As : List Assn} {b off : Nat} {T te : TypeId} {l : List Value} {v : Value} {fz : Nat × Nat} {u : Obj → List Assn} [i : TCell P T] [j : Owns b As (.cells l.toArray te fz) u] (s : St W0 As w) (hv : l[off]? = some v) : (loadVar T ⟨b, off, none⟩).run P w = .ok v w := by
  obtain ⟨dd, h1, h2⟩ := i.out
  have hb := s.heap (b := b)
  have hc : w.cell? ⟨b, off, none⟩ = some v := by simp [World.cell?, hb, hv]
  simp [loadVar, rA0 h1 h2, run_load, hc]
theorem agg_res {P : Program} {W0 w : World} {As : List Assn} {b off sz : Nat} {T te : TypeId} {l vs : List Value} {fz : Nat × Nat} {u : Obj → List Assn} [i : TAgg P T sz] [j : Owns b As (.cells l.toArray te fz) u] (s : St W0 As w) (hv : (l.drop off).take sz = vs) (hl : vs.length = sz) : (loadVar T ⟨b, off, none⟩).run P w = .ok (.agg vs.toArray) w := by
  obtain ⟨g0, g1, g2⟩ := i.out
  obtain ⟨inf, g3, g4⟩ := i.size
  have hb := s.heap (b := b)
  have hc := run_loadCells_list (P := P) w ⟨b, off, none⟩ vs (fun k v hk => by
    rw [← hv] at hk
    have := take_get hk
    rw [cell_add]; simp [World.cell?, hb, this])
  rw [hl] at hc
  simp [loadVar, rA1 g1 g2, rS g3, g4, hc]
theorem fam_rep {A : Assn} {R : List Assn} (n : Nat) (hA : ∀ R h, Sat R h → Sat (A :: R) h) : ∀ h, Sat R h → Sat (fam (List.replicate n A) :: R) h := fun h s => by
  refine Sat.flat.2 ?_
  induction n with
  | zero => exact s
  | succ n ih => exact hA _ _ ih
end Go.L
