/-
  Lines of scripts, on paper: words taken one by one, with a mark for what is wrong. Own work; no program.
-/
import Derived.Test.YtcglaiacohkaeaaDoorScrN
set_option linter.unusedSimpArgs false
set_option linter.unusedVariables false
set_option linter.unusedSectionVars false
namespace Go.L.Sc
open Go.L Go.L.Lx Go.L.Pa
/-- the words that are left, and whether something was wrong -/
abbrev Om := List By × Bool
def takeV (ω : Om) : By := ω.1.headD []
def takeS (ω : Om) : Om := (ω.1.tail, ω.2 || decide (ω.1 = []))
def numR (lo hi : Int) (ω : Om) : Int := (numV lo hi (takeV ω)).getD 0
def numS (lo hi : Int) (ω : Om) : Om := ((takeS ω).1, (takeS ω).2 || (numV lo hi (takeV ω)).isNone)
def nameS (ω : Om) : Om := ((takeS ω).1, (takeS ω).2 || !isName (takeV ω))
def nameS1 (ω : Om) : Om := ((takeS ω).1, (takeS ω).2 || !(decide (takeV ω = wDash) || isName (takeV ω)))
def doneB (ω : Om) : Bool := !ω.2 && decide (ω.1 = [])
theorem numV_nil (lo hi : Int) : numV lo hi [] = none := by
  unfold numV; rw [if_neg]
  rintro ⟨-, -, h⟩
  obtain ⟨c, l, hd, -, -⟩ := dec_head (0 : Int).toNat
  have h2 : itoaB (rawV []) = dec (0 : Int).toNat := by unfold itoaB; rw [if_neg (by decide)]; rfl
  rw [h2, hd] at h; cases h
/-- the letters of an entry's form, one by one -/
def runE : By → Ent → Om → Ent × Om
  | [], e, ω => (e, ω)
  | c :: cs, e, ω =>
    if c.toNat = 116 then runE cs { e with tag := takeV ω } (nameS ω)
    else runE cs (if c.toNat = 97 then { e with a := numR 0 65535 ω } else if c.toNat = 98 then { e with b := numR 0 65535 ω } else { e with n := numR 0 65535 ω }) (numS 0 65535 ω)
theorem runE_eq : ∀ (cs : By) (e : Ent) (ws : List By) (b : Bool), (if doneB (runE cs e (ws, b)).2 = true then some (runE cs e (ws, b)).1 else none) = if b then none else partsE cs ws e
  | [], e, ws, b => by
    show (if doneB (ws, b) = true then some e else none) = _
    cases b <;> cases ws <;> rfl
  | c :: cs, e, ws, b => by
    unfold runE
    cases ws with
    | nil =>
      have hn : takeS (([] : List By), b) = ([], true) := by unfold takeS; simp
      have hR : (if b then none else partsE (c :: cs) [] e) = (none : Option Ent) := by cases b <;> rfl
      rw [hR]
      split
      · have h1 : nameS (([] : List By), b) = ([], true) := by unfold nameS; rw [hn]; rfl
        rw [h1, runE_eq cs _ [] true]; rfl
      · have h1 : numS 0 65535 (([] : List By), b) = ([], true) := by unfold numS; rw [hn]; rfl
        rw [h1, runE_eq cs _ [] true]; rfl
    | cons w ws =>
      have hn : takeS (w :: ws, b) = (ws, b) := by unfold takeS; simp
      have hR : (if b then none else partsE (c :: cs) (w :: ws) e) = if b then none else (partE c w e).bind (partsE cs ws) := rfl
      rw [hR]
      split
      · rename_i hc
        have h1 : nameS (w :: ws, b) = (ws, b || !isName w) := by unfold nameS; rw [hn]; rfl
        rw [h1, runE_eq cs _ ws _]
        unfold partE; rw [if_pos hc]
        cases b with
        | true => rfl
        | false =>
          show (if (!isName w) = true then none else _) = (if isName w = true then some _ else none).bind _
          cases isName w <;> rfl
      · rename_i hc
        have h1 : numS 0 65535 (w :: ws, b) = (ws, b || (numV 0 65535 w).isNone) := by unfold numS; rw [hn]; rfl
        have h2 : numR 0 65535 (w :: ws, b) = (numV 0 65535 w).getD 0 := rfl
        rw [h1, h2, runE_eq cs _ ws _]
        unfold partE; rw [if_neg hc]
        cases b with
        | true => rfl
        | false => cases numV 0 65535 w <;> rfl
theorem readE_run {l w : By} {ws : List By} (hs : splitB 32 l = w :: ws) {k : Int} (hk : kindE w = k) (h0 : k ≠ 0) : readE l = if doneB (runE (formE k).2 { ent0 with kind := k } (ws, false)).2 = true then some (runE (formE k).2 { ent0 with kind := k } (ws, false)).1 else none := by
  rw [runE_eq]; unfold readE; rw [hs]
  show wordsE w ws = _
  unfold wordsE; rw [hk, if_neg h0]; rfl
theorem readE_no {l w : By} {ws : List By} (hs : splitB 32 l = w :: ws) (hk : kindE w = 0) : readE l = none := by
  unfold readE; rw [hs]
  show wordsE w ws = _
  unfold wordsE; rw [hk, if_pos rfl]
end Go.L.Sc
