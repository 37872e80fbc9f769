/-
  The words of a program, on paper; memory parts that hold what lay there at the start. Own work; no program.
-/
import Derived.Test.YtcglaiacohkaeaaDoorParP
import Derived.Test.YtcglaiacohkaeaaDoorFns
set_option linter.unusedSimpArgs false
set_option linter.unusedVariables false
set_option linter.unusedSectionVars false
namespace Go.L.Pa
open Go.L Go.L.Lx Go.L.Pg
/-- a number's text -/
def itoaB (n : Int) : By := if n < 0 then 45 :: dec n.natAbs else dec n.toNat
def rg (n : Int) : Prop := -9223372036854775808 ≤ n ∧ n ≤ 9223372036854775807
def valWs (e : Eff) : By := if e.value = 0 then wKeep else if e.value = 1 then wLess else itoaB e.n
def partWs (e : Eff) (c : UInt8) : List By :=
  if c.toNat = 114 then [e.ref] else if c.toNat = 115 then [e.slot] else if c.toNat = 110 then [e.name] else if c.toNat = 100 then [itoaB e.delay] else if c.toNat = 118 then [valWs e] else []
def doOk (e : Eff) : Bool := decide (1 ≤ e.do') && decide (e.do' ≤ 12)
def effWs (e : Eff) : List By := if e.do' < 1 ∨ 12 < e.do' then [] else (verb e.do').1 :: (verb e.do').2.flatMap (partWs e)
def effsWs (E : List Eff) : List By := E.flatMap fun e => effWs e ++ [wSemi]
def tagWs (r : Row) : List By := if r.tag = [] then [wAny] else [wOn, r.tag]
def numWs (r : Row) : List By := if r.only then [itoaB r.n] else []
def rowWs (r : Row) : List By := tagWs r ++ numWs r ++ [wOpen] ++ effsWs r.effs ++ [wShut]
def dirWs (d : Int) : List By := if 1 ≤ d ∧ d ≤ 4 then [dirs.getD (d - 1).toNat []] else []
def hdWs (c : Cas) : List By := if c.reason = [] then [wElse] else [wCase, c.reason]
def casWs (c : Cas) : List By := hdWs c ++ dirWs c.do' ++ [wSemi]
def staWs (s : Sta) : List By := [wState, s.name, wOpen] ++ s.rows.flatMap rowWs ++ [wShut]
def topWs (k : Knd) : List By := [wKind, k.name, wOpen, wLimit, itoaB k.limit, wIn, itoaB k.within, wSemi]
def kndWs (k : Knd) : List By := topWs k ++ k.cases.flatMap casWs ++ k.states.flatMap staWs ++ [wShut]
def prgWs (K : List Knd) : List By := K.flatMap kndWs
/-! numbers that are machine words -/
structure EffR (e : Eff) : Prop where
  n : rg e.n
  delay : rg e.delay
structure RowR (r : Row) : Prop where
  n : rg r.n
  effs : ∀ e ∈ r.effs, EffR e
structure KndR (k : Knd) : Prop where
  limit : rg k.limit
  within : rg k.within
  rows : ∀ s ∈ k.states, ∀ r ∈ s.rows, RowR r
/-! ### the same -/
def sameL {α : Type} (q : α → α → Bool) : List α → List α → Bool
  | [], [] => true
  | x :: l, y :: m => q x y && sameL q l m
  | _, _ => false
def rowEq (x y : Row) : Bool := decide (x.tag = y.tag) && (x.only == y.only) && decide (x.n = y.n) && sameL (fun a b => decide (a = b)) x.effs y.effs
def staEq (x y : Sta) : Bool := decide (x.name = y.name) && sameL rowEq x.rows y.rows
def kndEq (x y : Knd) : Bool := decide (x.name = y.name) && decide (x.limit = y.limit) && decide (x.within = y.within) && sameL (fun a b => decide (a = b)) x.cases y.cases && sameL staEq x.states y.states
def LenK (k : Knd) : Prop := k.cases.length ≤ 9223372036854775807 ∧ k.states.length ≤ 9223372036854775807 ∧ ∀ s ∈ k.states, s.rows.length ≤ 9223372036854775807 ∧ ∀ r ∈ s.rows, r.effs.length ≤ 9223372036854775807
theorem sameL_len {α : Type} {q : α → α → Bool} : ∀ {l m : List α}, l.length ≠ m.length → sameL q l m = false
  | [], [], h => absurd rfl h
  | x :: l, y :: m, h => by unfold sameL; rw [sameL_len (by simpa using h), Bool.and_false]
  | [], _ :: _, _ => rfl
  | _ :: _, [], _ => rfl
theorem sameL_drop {α : Type} {q : α → α → Bool} {l m : List α} {j : Nat} {x y : α} (h1 : l[j]? = some x) (h2 : m[j]? = some y) : sameL q (l.drop j) (m.drop j) = (q x y && sameL q (l.drop (j + 1)) (m.drop (j + 1))) := by
  obtain ⟨i1, e1⟩ := List.getElem?_eq_some_iff.1 h1
  obtain ⟨i2, e2⟩ := List.getElem?_eq_some_iff.1 h2
  rw [List.drop_eq_getElem_cons i1, List.drop_eq_getElem_cons i2, e1, e2]; rfl
/-! ### words joined -/
def joinS : List By → By
  | [] => []
  | w :: ws => w ++ ws.flatMap fun v => 32 :: v
def wl : List By → Nat
  | [] => 0
  | w :: ws => w.length + 1 + wl ws
theorem wl_app : ∀ a b : List By, wl (a ++ b) = wl a + wl b
  | [], b => by show wl b = 0 + wl b; omega
  | w :: a, b => by show w.length + 1 + wl (a ++ b) = w.length + 1 + wl a + wl b; rw [wl_app a b]; omega
theorem wl_flat {α : Type} (f : α → List By) : ∀ (l : List α) (k : Nat), wl ((l.take k).flatMap f) ≤ wl (l.flatMap f)
  | l, 0 => by simp [wl]
  | [], k + 1 => by simp
  | x :: l, k + 1 => by
    rw [List.take_succ_cons, List.flatMap_cons, List.flatMap_cons, wl_app, wl_app]
    have := wl_flat f l k; omega
theorem wl_mem {α : Type} (f : α → List By) : ∀ {l : List α} {x : α}, x ∈ l → wl (f x) ≤ wl (l.flatMap f)
  | y :: l, x, h => by
    rw [List.flatMap_cons, wl_app]
    rcases List.mem_cons.1 h with rfl | h
    · omega
    · have := wl_mem f h; omega
theorem len_wl : ∀ ws : List By, ws.length ≤ wl ws
  | [] => Nat.le_refl _
  | w :: ws => by have := len_wl ws; rw [List.length_cons]; show _ ≤ w.length + 1 + wl ws; omega
theorem tail_wl : ∀ ws : List By, (ws.flatMap fun v => 32 :: v).length = wl ws
  | [] => rfl
  | w :: ws => by rw [List.flatMap_cons, List.length_append, tail_wl ws]; rfl
theorem joinS_len (ws : List By) : (joinS ws).length ≤ wl ws := by
  cases ws with
  | nil => exact Nat.le_refl _
  | cons w ws => show (w ++ _).length ≤ w.length + 1 + wl ws; rw [List.length_append, tail_wl]; omega
/-! ### a kind's parts, each alone -/
abbrev wA : By := [97]
def prt0 (k : Knd) : Knd := ⟨k.name, k.limit, k.within, none, 0, [], none, 0, []⟩
def prtC (c : Cas) : Knd := ⟨wA, 0, 0, none, 0, [c], none, 0, []⟩
def prtX (s : Sta) : Knd := ⟨wA, 0, 0, none, 0, [], none, 0, [s]⟩
def prtS (s : Sta) : Knd := prtX ⟨s.name, none, 0, []⟩
def prtR (r : Row) : Knd := prtX ⟨wA, none, 0, [⟨r.tag, r.only, r.n, none, 0, []⟩]⟩
def prtE (e : Eff) : Knd := prtX ⟨wA, none, 0, [⟨[], false, 0, none, 0, [e]⟩]⟩
def partsR (r : Row) : List Knd := prtR r :: r.effs.map prtE
def partsS (s : Sta) : List Knd := prtS s :: s.rows.flatMap partsR
def allP (k : Knd) : List Knd := prt0 k :: (k.cases.map prtC ++ k.states.flatMap partsS)
/-- a part alone is no text's -/
def badP (x : Knd) : Bool := match progP (joinS (kndWs x)) with
  | .error _ => true
  | .ok K => !sameL kndEq [x] K
def printableP (k : Knd) : Bool := !(allP k).any badP
/-- what Print answers -/
def printP (K : List Knd) : By × Int := match progP (joinS (prgWs K)) with
  | .error e => if (e.1 : Int) = 5 then (if K.all printableP then ([], 5) else ([], 1)) else ([], 1)
  | .ok K' => if sameL kndEq K K' then (joinS (prgWs K), 0) else ([], 1)
/-! what lies where is nothing to it -/
theorem rowEq_r (x y : Row) : rowEq x (Row.strip y) = rowEq x y := rfl
theorem sameL_map {α : Type} {q : α → α → Bool} {f : α → α} (h : ∀ x y, q x (f y) = q x y) : ∀ l m : List α, sameL q l (m.map f) = sameL q l m
  | [], [] => rfl
  | [], _ :: _ => rfl
  | _ :: _, [] => rfl
  | x :: l, y :: m => by show (q x (f y) && sameL q l (m.map f)) = (q x y && sameL q l m); rw [h, sameL_map h l m]
theorem sameL_mapL {α : Type} {q : α → α → Bool} {f : α → α} (h : ∀ x y, q (f x) y = q x y) : ∀ l m : List α, sameL q (l.map f) m = sameL q l m
  | [], [] => rfl
  | [], _ :: _ => rfl
  | _ :: _, [] => rfl
  | x :: l, y :: m => by show (q (f x) y && sameL q (l.map f) m) = (q x y && sameL q l m); rw [h, sameL_mapL h l m]
theorem staEq_r (x y : Sta) : staEq x (Sta.strip y) = staEq x y := by unfold staEq Sta.strip; simp only []; rw [sameL_map rowEq_r]
theorem kndEq_r (x y : Knd) : kndEq x (Knd.strip y) = kndEq x y := by unfold kndEq Knd.strip; simp only []; rw [sameL_map staEq_r]
theorem rowEq_l (x y : Row) : rowEq (Row.strip x) y = rowEq x y := rfl
theorem staEq_l (x y : Sta) : staEq (Sta.strip x) y = staEq x y := by unfold staEq Sta.strip; simp only []; rw [sameL_mapL rowEq_l]
theorem kndEq_l (x y : Knd) : kndEq (Knd.strip x) y = kndEq x y := by unfold kndEq Knd.strip; simp only []; rw [sameL_mapL staEq_l]
theorem same_strip (K K' : List Knd) : sameL kndEq K (strip K') = sameL kndEq K K' := sameL_map kndEq_r K K'
theorem same_stripL (K K' : List Knd) : sameL kndEq (strip K) K' = sameL kndEq K K' := sameL_mapL kndEq_l K K'
theorem rowWs_strip (r : Row) : rowWs (Row.strip r) = rowWs r := rfl
theorem staWs_strip (s : Sta) : staWs (Sta.strip s) = staWs s := by unfold staWs Sta.strip; simp only [List.flatMap_map]; rfl
theorem kndWs_strip (k : Knd) : kndWs (Knd.strip k) = kndWs k := by
  unfold kndWs Knd.strip topWs; simp only [List.flatMap_map, staWs_strip]
theorem prgWs_strip (K : List Knd) : prgWs (strip K) = prgWs K := by unfold prgWs strip; simp only [List.flatMap_map, kndWs_strip]
theorem badP_strip (x : Knd) : badP (Knd.strip x) = badP x := by
  unfold badP; rw [kndWs_strip]
  cases progP (joinS (kndWs x)) with
  | error _ => rfl
  | ok K' => show (!sameL kndEq (strip [x]) K') = _; rw [same_stripL]
theorem any_strip {L P : List Knd} (h : strip L = P) : L.any badP = P.any badP := by
  rw [← h]; unfold strip; rw [List.any_map]; congr 1; funext x; exact (badP_strip x).symm
theorem KndR.of_strip {x : Knd} (h : KndR (Knd.strip x)) : KndR x := ⟨h.limit, h.within, fun s hs r hr => by
  have := h.rows (Sta.strip s) (List.mem_map_of_mem hs) (Row.strip r) (List.mem_map_of_mem hr)
  exact ⟨this.n, this.effs⟩⟩
/-! ### memory that holds a base -/
/-- a part of memory of which the base is one -/
class HB (W : World) (M : Assn) : Prop where
  out : ∃ N : List Assn, ∀ R h, Sat (M :: R) h ↔ Sat (base W :: (N ++ R)) h
instance HB.base {W : World} : HB W (base W) where
  out := ⟨[], fun _ _ => Iff.rfl⟩
/-- two parts as one -/
abbrev both (A B : Assn) : Assn := starL [A, B]
theorem sat_both {A B : Assn} {R : List Assn} {h : Hp} : Sat (both A B :: R) h ↔ Sat (A :: B :: R) h := Sat.flat
theorem sat_swap {A B : Assn} {R : List Assn} {h : Hp} : Sat (A :: B :: R) h ↔ Sat (B :: A :: R) h := ⟨Sat.swap, Sat.swap⟩
instance HB.right {W : World} {A B : Assn} [i : HB W B] : HB W (both A B) where
  out := by
    obtain ⟨N, hN⟩ := i.out
    refine ⟨N ++ [A], fun R h => ?_⟩
    rw [sat_both, sat_swap, hN, List.append_assoc]
    rfl
/-! ### a kind made of one part -/
theorem own1 {b : Nat} {e : TypeId} {sz : Nat} {xs : List Value} {R : List Assn} (hl : xs.length = sz) : ∀ h, Sat (cel b e xs :: R) h → Sat (own (.slice (some ⟨b, 0, none⟩) 1 1) e sz 1 xs :: R) h := own_lit (by omega) (by unfold maxLen; omega)
theorem pk_0 {b : Nat} {e e1 e2 : TypeId} {k : Knd} {F : List Assn} (h1 : ok63 k.name.length) : ∀ h, Sat F h → Sat (kndA (prt0 k) :: F) h := fun h s =>
  mk_knd (C := []) (S := []) (a := none) (c := 0) (a2 := none) (c2 := 0) (e := e1) (e2 := e2) h1 (by simp) (by simp) (by simp) h (own_nil0 h (own_nil0 h (sat_nil (fun _ h => by cases h) h s)))
def kC (b : Nat) (c : Cas) : Knd := ⟨wA, 0, 0, some ⟨b, 0, none⟩, 1, [c], none, 0, []⟩
def kS (b : Nat) (s : Sta) : Knd := ⟨wA, 0, 0, none, 0, [], some ⟨b, 0, none⟩, 1, [s]⟩
def sR (n : By) (b : Nat) (r : Row) : Sta := ⟨n, some ⟨b, 0, none⟩, 1, [r]⟩
def rE (b : Nat) (e : Eff) : Row := ⟨[], false, 0, some ⟨b, 0, none⟩, 1, [e]⟩
theorem ok63_1 : ok63 wA.length := by show 1 ≤ 140737488351232; omega
theorem ok63_0 : ok63 ([] : By).length := by show 0 ≤ 140737488351232; omega
theorem pk_C {b : Nat} {e e2 : TypeId} {c : Cas} {F : List Assn} (h : ok63 c.reason.length) : ∀ g, Sat (cel b e (casC c) :: F) g → Sat (kndA (kC b c) :: F) g := fun g s =>
  mk_knd (C := [c]) (S := []) (a := some ⟨b, 0, none⟩) (c := 1) (a2 := none) (c2 := 0) (e := e) (e2 := e2) ok63_1 (by simp) (by simp) (by simpa using h) g (by
    have s1 := own1 (sz := 2) rfl g s
    exact Sat.tail (fun g s => own_nil0 g (sat_nil (fun _ h => by cases h) g s)) s1)
theorem pk_S {b : Nat} {e e1 : TypeId} {st : Sta} {F : List Assn} : ∀ g, Sat (cel b e (staC st) :: staA st :: F) g → Sat (kndA (kS b st) :: F) g := fun g s =>
  mk_knd (C := []) (S := [st]) (a := none) (c := 0) (a2 := some ⟨b, 0, none⟩) (c2 := 1) (e := e1) (e2 := e) ok63_1 (by simp) (by simp) (by simp) g (own_nil0 g (by
    have s1 := own1 (sz := 2) rfl g s
    exact Sat.tail (fun g s => stas_push (R := []) g (Sat.tail (fun g s => sat_nil (fun _ h => by cases h) g s) s)) s1))
theorem pk_s0 {n : By} {e : TypeId} {F : List Assn} (h : ok63 n.length) : ∀ g, Sat F g → Sat (staA ⟨n, none, 0, []⟩ :: F) g := fun g s =>
  mk_sta (R := []) (a := none) (c := 0) (e := e) h (by simp) g (own_nil0 g (sat_nil (fun _ h => by cases h) g s))
theorem pk_sR {n : By} {b : Nat} {e : TypeId} {r : Row} {F : List Assn} (h : ok63 n.length) : ∀ g, Sat (cel b e (rowC r) :: rowA r :: F) g → Sat (staA (sR n b r) :: F) g := fun g s =>
  mk_sta (R := [r]) (a := some ⟨b, 0, none⟩) (c := 1) (e := e) h (by simp) g (by
    have s1 := own1 (sz := 4) rfl g s
    exact Sat.tail (fun g s => rows_push (R := []) g (Sat.tail (fun g s => sat_nil (fun _ h => by cases h) g s) s)) s1)
theorem pk_r0 {t : By} {o : Bool} {n : Int} {e : TypeId} {F : List Assn} (h : ok63 t.length) : ∀ g, Sat F g → Sat (rowA ⟨t, o, n, none, 0, []⟩ :: F) g := fun g s =>
  mk_row (es := []) (a := none) (c := 0) (e := e) h (by simp) (by simp) g (own_nil0 g s)
theorem pk_rE {b : Nat} {e : TypeId} {f : Eff} {F : List Assn} (h : EffOk f) : ∀ g, Sat (cel b e (effC f) :: F) g → Sat (rowA (rE b f) :: F) g := fun g s =>
  mk_row (es := [f]) (a := some ⟨b, 0, none⟩) (c := 1) (e := e) ok63_0 (by simp) (by simpa using h) g (own1 (sz := 7) rfl g s)
/-- how many parts -/
theorem wl_pos {w : By} {ws : List By} : w.length + 1 ≤ wl (w :: ws) := Nat.le_add_right _ _
theorem partsR_len (r : Row) : (partsR r).length ≤ (rowWs r).length := by
  unfold partsR rowWs effsWs
  rw [List.length_cons, List.length_map]
  simp only [List.length_append, List.length_cons, List.length_nil]
  have : ∀ l : List Eff, l.length ≤ (l.flatMap fun e => effWs e ++ [wSemi]).length := fun l => by
    induction l with
    | nil => simp
    | cons x l ih => rw [List.flatMap_cons, List.length_append, List.length_cons]; simp only [List.length_append, List.length_cons, List.length_nil] at *; omega
  have := this r.effs; omega
theorem flat_le {α β γ : Type} {f : α → List β} {g : α → List γ} (h : ∀ x, (f x).length ≤ (g x).length) : ∀ l : List α, (l.flatMap f).length ≤ (l.flatMap g).length
  | [] => Nat.le_refl _
  | x :: l => by rw [List.flatMap_cons, List.flatMap_cons, List.length_append, List.length_append]; have := h x; have := flat_le h l; omega
theorem partsS_len (s : Sta) : (partsS s).length ≤ (staWs s).length := by
  unfold partsS staWs
  simp only [List.length_append, List.length_cons, List.length_nil]
  have := flat_le partsR_len s.rows; omega
theorem allP_len (k : Knd) : (allP k).length ≤ (kndWs k).length := by
  unfold allP kndWs topWs
  simp only [List.length_append, List.length_cons, List.length_nil, List.length_map]
  have := flat_le partsS_len k.states
  have h2 : k.cases.length ≤ (k.cases.flatMap casWs).length := by
    have : ∀ l : List Cas, l.length ≤ (l.flatMap casWs).length := fun l => by
      induction l with
      | nil => simp
      | cons x l ih => rw [List.flatMap_cons, List.length_append, List.length_cons]; have : 1 ≤ (casWs x).length := by unfold casWs; simp only [List.length_append, List.length_cons, List.length_nil]; omega
                       omega
    exact this _
  omega
theorem wl_cons (w : By) (ws : List By) : wl (w :: ws) = w.length + 1 + wl ws := rfl
theorem wl_nil : wl [] = 0 := rfl
theorem wl_X (s : Sta) : wl (kndWs (prtX s)) = 26 + wl (staWs s) := by
  have h0 : (itoaB 0).length = 1 := by unfold itoaB; rw [if_neg (by omega)]; show (dec 0).length = 1; rw [dec]; rfl
  unfold kndWs topWs prtX
  simp only [wl_app, wl_cons, wl_nil, List.flatMap_nil, List.flatMap_cons, List.append_nil, h0, List.length_cons, List.length_nil]; omega
theorem allP_ok {k : Knd} (hk : KndR k) : ∀ y ∈ allP k, KndR y ∧ wl (kndWs y) ≤ wl (kndWs k) + 100 := by
  have h0 : (itoaB 0).length = 1 := by unfold itoaB; rw [if_neg (by omega)]; show (dec 0).length = 1; rw [dec]; rfl
  have z0 : rg 0 := by unfold rg; omega
  have hw : wl (kndWs k) = wl (topWs k) + wl (k.cases.flatMap casWs) + wl (k.states.flatMap staWs) + 2 := by unfold kndWs; simp only [wl_app, wl_cons, wl_nil, List.length_cons, List.length_nil]
  have xr : ∀ s : Sta, (∀ r ∈ s.rows, RowR r) → KndR (prtX s) := fun s h => ⟨z0, z0, fun s' hs r hr => by rw [List.mem_singleton.1 hs] at hr; exact h r hr⟩
  intro y hy
  unfold allP at hy
  rcases List.mem_cons.1 hy with rfl | hy
  · refine ⟨⟨hk.limit, hk.within, fun s hs => by cases hs⟩, ?_⟩
    rw [hw]; unfold kndWs prt0 topWs; simp only [wl_app, wl_cons, wl_nil, List.flatMap_nil, List.length_cons, List.length_nil]; omega
  rcases List.mem_append.1 hy with hy | hy
  · obtain ⟨c, hc, rfl⟩ := List.mem_map.1 hy
    refine ⟨⟨z0, z0, fun s hs => by cases hs⟩, ?_⟩
    have := wl_mem casWs hc
    rw [hw]; unfold kndWs prtC topWs; simp only [wl_app, wl_cons, wl_nil, List.flatMap_nil, List.flatMap_cons, List.append_nil, h0, List.length_cons, List.length_nil]; omega
  obtain ⟨s, hs, hy⟩ := List.mem_flatMap.1 hy
  have h1 := wl_mem staWs hs
  have hsw : wl (staWs s) = 6 + (s.name.length + 1) + 2 + wl (s.rows.flatMap rowWs) + 2 := by unfold staWs; simp only [wl_app, wl_cons, wl_nil, List.length_cons, List.length_nil]; omega
  unfold partsS at hy
  rcases List.mem_cons.1 hy with rfl | hy
  · refine ⟨xr _ (fun r hr => by cases hr), ?_⟩
    unfold prtS; rw [wl_X]; unfold staWs; simp only [wl_app, wl_cons, wl_nil, List.flatMap_nil, List.length_cons, List.length_nil]; omega
  obtain ⟨r, hr, hy⟩ := List.mem_flatMap.1 hy
  have h2 := wl_mem rowWs hr
  have hrr := hk.rows s hs r hr
  have hrw : wl (rowWs r) = wl (tagWs r) + wl (numWs r) + 2 + wl (effsWs r.effs) + 2 := by unfold rowWs; simp only [wl_app, wl_cons, wl_nil, List.length_cons, List.length_nil]
  unfold partsR at hy
  rcases List.mem_cons.1 hy with rfl | hy
  · refine ⟨xr _ (fun r' hr' => by rw [List.mem_singleton.1 hr']; exact ⟨hrr.n, fun e he => by cases he⟩), ?_⟩
    have e1 : wl (rowWs ⟨r.tag, r.only, r.n, none, 0, []⟩) = wl (tagWs r) + wl (numWs r) + 4 := by
      show wl (tagWs r ++ numWs r ++ [wOpen] ++ [] ++ [wShut]) = _
      simp only [wl_app, wl_cons, wl_nil, List.length_cons, List.length_nil]
    unfold prtR; rw [wl_X]; unfold staWs; simp only [wl_app, wl_cons, wl_nil, List.flatMap_nil, List.flatMap_cons, List.append_nil, List.length_cons, List.length_nil, e1]; omega
  obtain ⟨e, he, rfl⟩ := List.mem_map.1 hy
  refine ⟨xr _ (fun r' hr' => by rw [List.mem_singleton.1 hr']; exact ⟨z0, fun e' he' => by rw [List.mem_singleton.1 he']; exact hrr.effs e he⟩), ?_⟩
  have h3 : wl (effWs e ++ [wSemi]) ≤ wl (effsWs r.effs) := wl_mem (fun e => effWs e ++ [wSemi]) he
  have h4 : wl (effWs e ++ [wSemi]) = wl (effWs e) + 2 := by rw [wl_app]; rfl
  have e1 : wl (rowWs ⟨[], false, 0, none, 0, [e]⟩) = 4 + 2 + wl (effWs e) + 2 + 2 := by unfold rowWs effsWs tagWs numWs; simp only [wl_app, wl_cons, wl_nil, List.flatMap_nil, List.flatMap_cons, List.append_nil, List.length_cons, List.length_nil, if_pos, if_neg, Bool.false_eq_true, not_false_eq_true]; omega
  unfold prtE; rw [wl_X]; unfold staWs; simp only [wl_app, wl_cons, wl_nil, List.flatMap_nil, List.flatMap_cons, List.append_nil, List.length_cons, List.length_nil, e1]; omega
instance HB.right2 {W : World} {A B C : Assn} [i : HB W C] : HB W (starL [A, B, C]) where
  out := by
    obtain ⟨N, hN⟩ := i.out
    refine ⟨N ++ [A, B], fun R h => ?_⟩
    rw [Sat.flat]
    have e1 : Sat ([A, B, C] ++ R) h ↔ Sat (C :: A :: B :: R) h := ⟨fun s => Sat.swap (Sat.tail (fun _ => Sat.swap) s), fun s => Sat.tail (fun _ => Sat.swap) (Sat.swap s)⟩
    rw [e1, hN, List.append_assoc]; rfl
variable {P : Program}
theorem fns_in {W : World} {M : Assn} [i : HB W M] {f : FuncId} {args : List Value} {Xs : List Assn} {post post' : Value → List Assn → Prop} (h : FnS P f args (Xs ++ [base W]) post) (hp : ∀ u Bs, post u Bs → ∃ Cs, Bs = Cs ++ [base W] ∧ post' u (Cs ++ [M])) : FnS P f args (Xs ++ [M]) post' := by
  obtain ⟨N, hN⟩ := i.out
  have up : ∀ (Cs R : List Assn) (g : Hp), Sat ((Cs ++ [M]) ++ R) g ↔ Sat ((Cs ++ [Go.L.base W]) ++ (N ++ R)) g := by
    intro Cs R
    induction Cs with
    | nil => exact fun g => hN R g
    | cons C Cs ih =>
      intro g
      exact ⟨Sat.tail fun k => (ih k).1, Sat.tail fun k => (ih k).2⟩
  intro W0 R w s
  have s2 : St W0 ((Xs ++ [Go.L.base W]) ++ (N ++ R)) w := s.imp fun g => (up Xs R g).1
  refine (h W0 (N ++ R) w s2).mono ?_
  rintro e w' ⟨u, Bs, he, hpo, s3⟩
  obtain ⟨Cs, rfl, hpo'⟩ := hp u Bs hpo
  exact ⟨u, _, he, hpo', s3.imp fun g => (up Cs R g).2⟩
end Go.L.Pa
