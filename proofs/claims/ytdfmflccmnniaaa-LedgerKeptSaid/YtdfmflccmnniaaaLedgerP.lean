/-
  The ledger on paper: what is somewhere, how many are. Own work; no program.
-/
import Derived.Test.YtdfmflccmnniaaaMap
namespace Go.L.Led
open Go.L
abbrev I64 (x : Int) : Value := .int .i64 x
abbrev U64 (x : Int) : Value := .int .u64 x
theorem cs_get (mb : Value) (v : Value) (cs : List Int) (k : Nat) (h : k < cs.length) : (mb :: v :: cs.map I64)[2 + k * 1]? = some (I64 (cs.getD k 0)) := by
  rw [show 2 + k * 1 = k + 1 + 1 by omega]; simp [List.getD_eq_getElem?_getD, List.getElem?_eq_getElem h]
theorem cs_set (mb : Value) (v : Value) (cs : List Int) (k : Nat) (x : Int) : (mb :: v :: cs.map I64).set (2 + k * 1) (I64 x) = mb :: v :: (cs.set k x).map I64 := by
  rw [show 2 + k * 1 = k + 1 + 1 by omega]; simp [List.map_set]
def bump (cs : List Int) (k : Nat) (d : Int) : List Int := cs.set k (IntKind.i64.wrap (cs.getD k 0 + d))
/-- where a message is: 0 nowhere -/
def wh (r : List (Int × Int)) (id : Int) : Int := (mget r id).getD 0
def cnt (r : List (Int × Int)) (w : Int) : Nat := (r.filter fun q => decide (q.2 = w)).length
def hl (w : Int) : Bool := decide (1 ≤ w ∧ w ≤ 6)
def fromR (r : List (Int × Int)) (id j : Int) : List (Int × Int) := if hl (wh r id) then mput r id j else r
def fromE (r : List (Int × Int)) (id : Int) : Int := if hl (wh r id) then 0 else 2
def movR (r : List (Int × Int)) (id w : Int) : List (Int × Int) := if hl w then fromR r id w else r
def movE (r : List (Int × Int)) (id w : Int) : Int := if hl w then fromE r id else 1
def accR (r : List (Int × Int)) (id w : Int) : List (Int × Int) := if hl w ∧ wh r id = 0 then r ++ [(id, w)] else r
def accE (r : List (Int × Int)) (id w : Int) : Int := if hl w then (if wh r id = 0 then 0 else 3) else 1
def held (r : List (Int × Int)) : List (Int × Int) := r.filter fun q => hl q.2
def cntZ (r : List (Int × Int)) (w : Int) : Int := if w < 1 ∨ 8 < w then 0 else cnt r w
/-- nothing twice, each somewhere, not too many -/
structure ROk (r : List (Int × Int)) : Prop where
  nd : (r.map (·.1)).Nodup
  at' : ∀ q ∈ r, 1 ≤ q.2 ∧ q.2 ≤ 8
structure LOk (r : List (Int × Int)) (cs : List Int) : Prop where
  len : cs.length = 9
  zero : cs.getD 0 0 = -(r.length : Int)
  cnt : ∀ w : Nat, 1 ≤ w → w < 9 → cs.getD w 0 = cnt r w
theorem mget_mem {r : List (Int × Int)} {id x : Int} (h : mget r id = some x) : (id, x) ∈ r := by
  induction r with
  | nil => cases h
  | cons q r ih =>
    simp only [mget] at h
    split at h
    · rename_i e; cases h; rw [e]; exact List.mem_cons_self
    · exact List.mem_cons_of_mem _ (ih h)
theorem mget_none {r : List (Int × Int)} {id : Int} (h : mget r id = none) : id ∉ r.map (·.1) := by
  induction r with
  | nil => simp
  | cons q r ih =>
    simp only [mget] at h
    split at h
    · cases h
    · rename_i e; simp only [List.map_cons, List.mem_cons, not_or]; exact ⟨e, ih h⟩
theorem mput_none {r : List (Int × Int)} {id w : Int} (h : mget r id = none) : mput r id w = r ++ [(id, w)] := by
  induction r with
  | nil => rfl
  | cons q r ih =>
    simp only [mget] at h
    split at h
    · cases h
    · rename_i e; simp [mput, e, ih h]
theorem mput_fst {r : List (Int × Int)} {id w x : Int} (h : mget r id = some x) : (mput r id w).map (·.1) = r.map (·.1) := by
  induction r with
  | nil => cases h
  | cons q r ih =>
    simp only [mget] at h
    simp only [mput]
    split at h
    · rename_i e; simp [e]
    · rename_i e; simp [e, ih h]
theorem mput_len {r : List (Int × Int)} {id w x : Int} (h : mget r id = some x) : (mput r id w).length = r.length := by
  have := congrArg List.length (mput_fst (w := w) h); simpa using this
theorem mput_snd {r : List (Int × Int)} {id w : Int} : ∀ q ∈ mput r id w, q ∈ r ∨ q = (id, w) := by
  induction r with
  | nil => intro q h; simp [mput] at h; exact .inr h
  | cons p r ih =>
    intro q h
    simp only [mput] at h
    split at h
    · rcases List.mem_cons.1 h with h | h
      · exact .inr h
      · exact .inl (List.mem_cons_of_mem _ h)
    · rcases List.mem_cons.1 h with h | h
      · exact .inl (h ▸ List.mem_cons_self)
      · exact (ih q h).imp (List.mem_cons_of_mem _) (fun h => h)
theorem cnt_cons (q : Int × Int) (r : List (Int × Int)) (w : Int) : cnt (q :: r) w = (if q.2 = w then 1 else 0) + cnt r w := by
  unfold cnt; rw [List.filter_cons]; by_cases h : q.2 = w <;> simp [h]; omega
theorem cnt_put {r : List (Int × Int)} {id w x : Int} (h : mget r id = some x) (y : Int) : (cnt (mput r id w) y : Int) = cnt r y - (if x = y then 1 else 0) + (if w = y then 1 else 0) := by
  induction r with
  | nil => cases h
  | cons q r ih =>
    simp only [mget] at h
    simp only [mput]
    split at h
    · rename_i e; cases h
      rw [if_pos e, cnt_cons, cnt_cons]
      split <;> split <;> simp_all <;> omega
    · rename_i e
      rw [if_neg e, cnt_cons, cnt_cons]
      have := ih h
      split <;> simp_all <;> omega
theorem cnt_le (r : List (Int × Int)) (w : Int) : cnt r w ≤ r.length := List.length_filter_le _ _
theorem cnt_snoc (r : List (Int × Int)) (id w y : Int) : cnt (r ++ [(id, w)]) y = cnt r y + if w = y then 1 else 0 := by
  unfold cnt; rw [List.filter_append, List.length_append]; by_cases h : w = y <;> simp [h]
theorem cnt_pos {r : List (Int × Int)} {id x : Int} (h : mget r id = some x) : 1 ≤ cnt r x := by
  have : (id, x) ∈ r.filter fun q => decide (q.2 = x) := List.mem_filter.2 ⟨mget_mem h, by simp⟩
  exact List.length_pos_of_mem this
theorem getD_set (cs : List Int) (k j : Nat) (x : Int) (h : k < cs.length) : (cs.set k x).getD j 0 = if j = k then x else cs.getD j 0 := by
  simp only [List.getD_eq_getElem?_getD, List.getElem?_set]
  by_cases e : k = j
  · subst e; simp [h]
  · rw [if_neg e, if_neg (Ne.symm e)]
theorem bump_get (cs : List Int) (k j : Nat) (d : Int) (h : k < cs.length) (hb : -9223372036854775808 ≤ cs.getD k 0 + d ∧ cs.getD k 0 + d ≤ 9223372036854775807) : (bump cs k d).getD j 0 = cs.getD j 0 + if j = k then d else 0 := by
  unfold bump; rw [getD_set _ _ _ _ h, wr_i64 hb]
  by_cases e : j = k
  · subst e; simp
  · simp [e]
theorem bump_len (cs : List Int) (k : Nat) (d : Int) : (bump cs k d).length = cs.length := by simp [bump]
/-- moving what is there -/
theorem LOk.move {r : List (Int × Int)} {cs : List Int} (l : LOk r cs) {id : Int} {k j : Nat} (hk : mget r id = some (k : Int)) (hk1 : 1 ≤ k) (hk9 : k < 9) (hj1 : 1 ≤ j) (hj : j < 9) (hr : r.length ≤ 1000000) : LOk (mput r id j) (bump (bump cs k (-1)) j 1) := by
  have h0 : ∀ w : Nat, w < 9 → -1000000 ≤ cs.getD w 0 ∧ cs.getD w 0 ≤ 1000000 := fun w hw => by
    rcases Nat.eq_zero_or_pos w with e | e
    · subst e; rw [l.zero]; omega
    · rw [l.cnt w e hw]; have := cnt_le r w; omega
  have b1 : ∀ w, (bump cs k (-1)).getD w 0 = cs.getD w 0 + if w = k then -1 else 0 := fun w => bump_get _ _ _ _ (by rw [l.len]; exact hk9) (by have := h0 k hk9; omega)
  have b2 : ∀ w, (bump (bump cs k (-1)) j 1).getD w 0 = (bump cs k (-1)).getD w 0 + if w = j then 1 else 0 := fun w => bump_get _ _ _ _ (by rw [bump_len, l.len]; exact hj) (by have := h0 j hj; rw [b1]; split <;> omega)
  refine ⟨by simp [bump_len, l.len], ?_, fun w h1 h9 => ?_⟩
  · rw [b2, b1, l.zero, mput_len hk]; rw [if_neg (by omega), if_neg (by omega)]; omega
  · rw [b2, b1, l.cnt w h1 h9, cnt_put hk]
    have e1 : ((k : Int) = (w : Int)) ↔ w = k := by omega
    have e2 : ((j : Int) = (w : Int)) ↔ w = j := by omega
    simp only [e1, e2]
    split <;> split <;> omega
/-- taking in what is nowhere -/
theorem LOk.accept {r : List (Int × Int)} {cs : List Int} (l : LOk r cs) {id : Int} {j : Nat} (hj1 : 1 ≤ j) (hj : j < 9) (hr : r.length ≤ 1000000) : LOk (r ++ [(id, (j : Int))]) (bump (bump cs 0 (-1)) j 1) := by
  have h0 : ∀ w : Nat, w < 9 → -1000000 ≤ cs.getD w 0 ∧ cs.getD w 0 ≤ 1000000 := fun w hw => by
    rcases Nat.eq_zero_or_pos w with e | e
    · subst e; rw [l.zero]; omega
    · rw [l.cnt w e hw]; have := cnt_le r w; omega
  have b1 : ∀ w, (bump cs 0 (-1)).getD w 0 = cs.getD w 0 + if w = 0 then -1 else 0 := fun w => bump_get _ _ _ _ (by rw [l.len]; omega) (by have := h0 0 (by omega); omega)
  have b2 : ∀ w, (bump (bump cs 0 (-1)) j 1).getD w 0 = (bump cs 0 (-1)).getD w 0 + if w = j then 1 else 0 := fun w => bump_get _ _ _ _ (by rw [bump_len, l.len]; exact hj) (by have := h0 j hj; rw [b1]; split <;> omega)
  refine ⟨by simp [bump_len, l.len], ?_, fun w h1 h9 => ?_⟩
  · rw [b2, b1, l.zero]; rw [if_pos rfl, if_neg (by omega)]; simp; omega
  · rw [b2, b1, l.cnt w h1 h9, cnt_snoc]
    have e2 : ((j : Int) = (w : Int)) ↔ w = j := by omega
    simp only [e2]
    rw [if_neg (by omega)]; split <;> omega
theorem ROk.wh0 {r : List (Int × Int)} (h : ROk r) {id : Int} : wh r id = 0 ↔ mget r id = none := by
  unfold Led.wh
  constructor
  · intro e
    cases hm : mget r id with
    | none => rfl
    | some x => rw [hm] at e; have := h.at' _ (mget_mem hm); simp at e this; omega
  · intro e; rw [e]; rfl
theorem ROk.put {r : List (Int × Int)} (h : ROk r) {id w x : Int} (hm : mget r id = some x) (hw : 1 ≤ w ∧ w ≤ 8) : ROk (mput r id w) :=
  ⟨by rw [mput_fst hm]; exact h.nd, fun q hq => by rcases mput_snd q hq with hq | rfl; exact h.at' q hq; exact hw⟩
theorem ROk.snoc {r : List (Int × Int)} (h : ROk r) {id w : Int} (hm : mget r id = none) (hw : 1 ≤ w ∧ w ≤ 8) : ROk (r ++ [(id, w)]) :=
  ⟨by
    rw [List.map_append, List.nodup_append]
    refine ⟨h.nd, by simp, fun a ha b hb e => ?_⟩
    simp at hb; subst hb; subst e; exact mget_none hm ha, fun q hq => by
    rcases List.mem_append.1 hq with hq | hq
    · exact h.at' q hq
    · simp at hq; subst hq; exact hw⟩
theorem hl_iff {w : Int} : hl w = true ↔ 1 ≤ w ∧ w ≤ 6 := by simp [hl]
theorem ROk.from {r : List (Int × Int)} (h : ROk r) {id j : Int} (hj : 1 ≤ j ∧ j ≤ 8) : ROk (fromR r id j) := by
  unfold fromR; split
  · rename_i hh
    cases hm : mget r id with
    | none => rw [hl_iff] at hh; simp [Led.wh, hm] at hh
    | some x => exact h.put hm hj
  · exact h
theorem ROk.mov {r : List (Int × Int)} (h : ROk r) {id w : Int} : ROk (movR r id w) := by
  unfold movR; split
  · rename_i hh; rw [hl_iff] at hh; exact h.from ⟨hh.1, by omega⟩
  · exact h
theorem ROk.acc {r : List (Int × Int)} (h : ROk r) {id w : Int} : ROk (accR r id w) := by
  unfold accR; split
  · rename_i hh; have := hl_iff.1 hh.1; exact h.snoc (h.wh0.1 hh.2) ⟨this.1, by omega⟩
  · exact h
theorem fromR_len {r : List (Int × Int)} {id j : Int} : (fromR r id j).length = r.length := by
  unfold fromR; split
  · rename_i hh
    cases hm : mget r id with
    | none => rw [hl_iff] at hh; simp [Led.wh, hm] at hh
    | some x => exact mput_len hm
  · rfl
theorem movR_len {r : List (Int × Int)} {id w : Int} : (movR r id w).length = r.length := by
  unfold movR; split; exact fromR_len; rfl
theorem accR_len {r : List (Int × Int)} {id w : Int} : (accR r id w).length ≤ r.length + 1 := by
  unfold accR; split <;> simp
/-! the reference's list -/
def pe (q : Int × Int) : List Value := [U64 q.1, I64 q.2]
theorem pe_len (q : Int × Int) : (pe q).length = 2 := rfl
def pl (r : List (Int × Int)) : List Value := r.flatMap pe
def wth (r : List (Int × Int)) (id w : Int) : List (Int × Int) := r.map fun q => if q.1 = id then (id, w) else q
theorem wth_put {r : List (Int × Int)} {id w x : Int} (nd : (r.map (·.1)).Nodup) (hm : mget r id = some x) : wth r id w = mput r id w := by
  induction r with
  | nil => cases hm
  | cons q r ih =>
    simp only [List.map_cons, List.nodup_cons] at nd
    simp only [mget] at hm
    simp only [wth, List.map_cons, mput]
    split at hm
    · rename_i e
      rw [if_pos e.symm, if_pos e]
      congr 1
      have : ∀ p ∈ r, (if p.1 = id then (id, w) else p) = p := fun p hp => by
        rw [if_neg]; intro h; exact nd.1 (by rw [← e, ← h]; exact List.mem_map_of_mem hp)
      rw [List.map_congr_left this]; simp
    · rename_i e
      rw [if_neg (fun h => e h.symm), if_neg e]
      congr 1; exact ih nd.2 hm
theorem wth_none {r : List (Int × Int)} {id w : Int} (hm : mget r id = none) : wth r id w = r := by
  have h := mget_none hm
  have : ∀ p ∈ r, (if p.1 = id then (id, w) else p) = p := fun p hp => by
    rw [if_neg]; intro e; exact h (by rw [← e]; exact List.mem_map_of_mem hp)
  unfold wth; rw [List.map_congr_left this]; simp
theorem wth_snoc (r : List (Int × Int)) (k : Nat) (id w : Int) (q : Int × Int) (h : r[k]? = some q) : wth (r.take (k + 1)) id w = wth (r.take k) id w ++ [if q.1 = id then (id, w) else q] := by
  obtain ⟨hk, e⟩ := List.getElem?_eq_some_iff.1 h
  rw [List.take_succ_eq_append_getElem hk, e]; simp [wth]
theorem wh_hit {r : List (Int × Int)} {k : Nat} {id : Int} {q : Int × Int} (h : r[k]? = some q) (e : q.1 = id) : wh (r.drop k) id = q.2 := by
  obtain ⟨hk, e'⟩ := List.getElem?_eq_some_iff.1 h
  rw [List.drop_eq_getElem_cons hk, e']; unfold wh; simp [mget, e]
theorem wh_miss {r : List (Int × Int)} {k : Nat} {id : Int} {q : Int × Int} (h : r[k]? = some q) (e : ¬ q.1 = id) : wh (r.drop k) id = wh (r.drop (k + 1)) id := by
  obtain ⟨hk, e'⟩ := List.getElem?_eq_some_iff.1 h
  rw [List.drop_eq_getElem_cons hk, e']; unfold wh; simp [mget, Ne.symm e]
theorem cnt_take {r : List (Int × Int)} {k : Nat} {w : Int} {q : Int × Int} (h : r[k]? = some q) : cnt (r.take (k + 1)) w = cnt (r.take k) w + if q.2 = w then 1 else 0 := by
  obtain ⟨hk, e⟩ := List.getElem?_eq_some_iff.1 h
  rw [List.take_succ_eq_append_getElem hk, e]
  obtain ⟨a, b⟩ := q
  exact cnt_snoc _ a b w
theorem held_take {r : List (Int × Int)} {k : Nat} {q : Int × Int} (h : r[k]? = some q) : held (r.take (k + 1)) = held (r.take k) ++ if hl q.2 then [q] else [] := by
  obtain ⟨hk, e⟩ := List.getElem?_eq_some_iff.1 h
  rw [List.take_succ_eq_append_getElem hk, e]; unfold held; rw [List.filter_append]; congr 1
  by_cases hh : hl q.2 <;> simp [hh]
theorem pl_snoc (r : List (Int × Int)) (q : Int × Int) : pl (r ++ [q]) = pl r ++ pe q := by simp [pl]
theorem pl_len (r : List (Int × Int)) : (pl r).length = r.length * 2 := flat_length pe 2 pe_len r
theorem pl_0 {r : List (Int × Int)} {k : Nat} {q : Int × Int} (h : r[k]? = some q) : (pl r)[k * 2 + 0]? = some (U64 q.1) := flat_get pe 2 pe_len h rfl
theorem pl_1 {r : List (Int × Int)} {k : Nat} {q : Int × Int} (h : r[k]? = some q) : (pl r)[k * 2 + 1]? = some (I64 q.2) := flat_get pe 2 pe_len h rfl
theorem pl_q {r : List (Int × Int)} {k : Nat} {q : Int × Int} (h : r[k]? = some q) : ((pl r).drop (k * 2)).take 2 = pe q := flat_take pe 2 pe_len h
theorem held_len (r : List (Int × Int)) : (held r).length ≤ r.length := List.length_filter_le _ _
end Go.L.Led
