/-
  Check: what each function computes. Own work, printed in part by a program of its own.
-/
import Derived.Test.YtgmdlhlmffdbhaaGreatDoorChkX
set_option linter.unusedSimpArgs false
set_option linter.unusedVariables false
set_option linter.unusedSectionVars false
namespace Go.Proofs.YtgmdlhlmffdbhaaGreatDoor.C
open Go.Proofs.YtgmdlhlmffdbhaaGreatDoor.L Go.L Go.L.Lx Go.L.Pg
def ruC (x : Bool × Int) : List Value := [.bool x.1, I64 x.2]
theorem ruC_len (x : Bool × Int) : (ruC x).length = 2 := rfl
abbrev BT : TypeId := 91
abbrev badV (b : Nat) : Value := .iface 46 (ptr b 0)
/-- a fault, or none: what a call gives -/
def BadP : Flt → List Assn → Value → List Assn → Prop
  | none, Ms, u, Bs => u = .pointer none ∧ Bs = Ms
  | some (c, ws), Ms, u, Bs => ∃ b a cp, u = ptr b 0 ∧ Bs = cel b BT [I64 c, .slice a ws.length cp] :: intsA a cp ws :: Ms
def ErrP : Flt → List Assn → Value → List Assn → Prop
  | none, Ms, u, Bs => u = .nilIface ∧ Bs = Ms
  | some (c, ws), Ms, u, Bs => ∃ b a cp, u = badV b ∧ Bs = cel b BT [I64 c, .slice a ws.length cp] :: intsA a cp ws :: Ms
theorem part_app {R : List Assn} : ∀ {Ms : List Assn}, Part Ms (Ms ++ R) R
  | [] => .nil
  | _ :: Ms => .cons .head (part_app (Ms := Ms))
theorem rd_app {Ms R : List Assn} {v : Value} {n : Nat} {xs : List Value} (hr : ∀ h, Sat Ms h → SlR h v n xs) : RdS v (Ms ++ R) n xs := ⟨fun s => by
  obtain ⟨h1, h2, d, e, a, _⟩ := Sat.split s
  rw [e]; exact (hr _ a).more⟩
theorem own_nilI {R : List Assn} : ∀ h, Sat R h → Sat (intsA none 0 [] :: R) h := own_nil0
theorem firstR_drop {L : List (Bool × Int)} {x : Nat} {t : Bool × Int} (h : L[x]? = some t) : firstR (L.drop x) = if t.1 then t.2 else firstR (L.drop (x + 1)) := by
  obtain ⟨hj, e⟩ := List.getElem?_eq_some_iff.1 h
  rw [List.drop_eq_getElem_cons hj, e]; cases t; rfl
theorem fst_at {R : Nat → Flt} {i n : Nat} (h : i < n) : fst R i (n - i) = nx i (R i) (fst R (i + 1) (n - (i + 1))) := by
  obtain ⟨k, hk⟩ : ∃ k, n - i = k + 1 := ⟨n - i - 1, by omega⟩
  rw [hk, show n - (i + 1) = k by omega]; rfl
theorem any_none {α : Type} {L : List α} {q : α → Bool} {x : Nat} {t : α} (h : L[x]? = some t) (h1 : (L.take x).any q = false) (h2 : q t = false) : (L.take (x + 1)).any q = false := by
  obtain ⟨hj, e⟩ := List.getElem?_eq_some_iff.1 h
  rw [List.take_succ_eq_append_getElem hj, e, List.any_append, h1]; simp [h2]
theorem bool_v {a b : Bool} (h : a = b) : Value.bool a = Value.bool b := by rw [h]
attribute [local irreducible] isName

set_option maxRecDepth 8000 in
set_option maxHeartbeats 400000 in
theorem IdxF_Cas (L : List Cas) (a : Option Addr) (c : Nat) (F : FuncId) [TFunc Tryz.prog F] (caps : List Value) (Ms : List Assn) (q : Cas → Bool) (hn : L.length ≤ 9223372036854775807) (hr : ∀ h, Sat Ms h → SlR h (.slice a L.length c) L.length (L.flatMap casC))
    (hp : ∀ x ∈ L, FnS Tryz.prog F ([.agg (casC x).toArray] ++ caps) Ms (fun u Bs => u = .bool (q x) ∧ Bs = Ms)) : FnS Tryz.prog 67 [.slice a L.length c, .func (.func F) #[] caps.toArray] Ms (fun u Bs => ∃ r : Int, (0 ≤ r ↔ L.any q = true) ∧ u = I64 r ∧ Bs = Ms) := by
 refine fn_body Tryz.func67 rfl rfl rfl ?_
 intro W0 R
 simp only [List.zipIdx_cons, List.zipIdx_nil, List.map_cons, List.map_nil, Nat.zero_add, Nat.reduceAdd, List.cons_append, List.nil_append]
 haveI := rd_app (R := R) hr
 refine g_seq ?_
 refine g_region ?_
 refine gl_v rfl (o_assign rfl) ?_
 refine gl_nil ?_
 refine ge_then ?_
 refine g_seq ?_
 refine g_seq ?_
 refine g_region ?_
 refine gl_v rfl (o_move rfl) ?_
 first | refine gl_v rfl (o_len rfl) ?_ | refine gl_v rfl (o_lenL rfl) ?_
 refine gl_v rfl (o_move rfl) ?_
 refine gl_nil ?_
 refine ge_then ?_
 refine g_block ?_
 refine g_loop (ι := Nat) (fun x => x ≤ L.length ∧ (L.take x).any q = false) (fun x => [(8, I64 x), (7, I64 L.length), (0, .slice a L.length c), (1, .func (.func F) #[] caps.toArray)]) (fun _ => Ms ++ R) (fun x => L.length - x) 0 (⟨Nat.zero_le _, rfl⟩) (Keep.cons rfl (Keep.cons rfl (Keep.cons rfl (Keep.cons rfl (Keep.nil))))) (fun _ h => h) ?_
 rintro x ⟨hx, hq⟩
 replace hx : x ≤ L.length := hx
 replace hq : (L.take x).any q = false := hq
 refine g_seq ?_
 refine g_region ?_
 refine gl_v rfl (o_lss rfl rfl) ?_
 refine gl_nil ?_
 refine ge_then ?_
 refine g_seq ?_
 refine g_cond rfl (fun hc1 => ?_) (fun hc1 => ?_)
 ·
  replace hc1 := hs_ hc1
  obtain ⟨t, ht⟩ : ∃ t, L[x]? = some t := ⟨_, List.getElem?_eq_getElem (show x < L.length by omega)⟩
  refine g_skip ?_
  refine ge_then ?_
  refine g_seq ?_
  refine g_block ?_
  refine g_seq ?_
  refine g_region ?_
  refine gl_v rfl (o_move rfl) ?_
  refine gl_v rfl (o_assign rfl) ?_
  refine gl_nil ?_
  refine ge_then ?_
  refine g_seq ?_
  refine g_region ?_
  refine gl_v rfl (o_move rfl) ?_
  refine gl_v rfl (o_move rfl) ?_
  refine gl_v rfl (o_move rfl) ?_
  refine gl_v rfl (o_idxS rfl rfl (show x < L.length by omega)) ?_
  refine gl_v rfl (o_loadSA rfl (flat_take casC 2 casC_len ht) rfl) ?_
  refine gl_c rfl (o_callV rfl rfl (hp t (List.mem_of_getElem? ht)) part_app) ?_
  rintro _ R ⟨_, ⟨rfl, hm⟩, rfl⟩
  try simp only [List.cons_append, List.nil_append]
  obtain rfl := hm.symm
  refine gl_nil ?_
  refine ge_then ?_
  refine g_cond rfl (fun hc2 => ?_) (fun hc2 => ?_)
  ·
   replace hc2 := hs_ hc2
   refine g_seq ?_
   refine g_region ?_
   refine gl_v rfl (o_move rfl) ?_
   refine gl_v rfl (o_assign rfl) ?_
   refine gl_nil ?_
   refine ge_then ?_
   refine g_ret ?_
   refine ge_block_ret ?_
   refine ge_then_ret ?_
   refine ge_then_ret ?_
   refine ge_block_ret ?_
   refine ge_then_ret ?_
   refine ret1 (.inl rfl) rfl rfl  Ms ⟨_, ⟨fun _ => List.any_eq_true.2 ⟨t, List.mem_of_getElem? ht, hc2⟩, fun _ => by omega⟩, rfl, rfl⟩ (fun _ h => h)
  ·
   replace hc2 := hs_ hc2
   refine g_skip ?_
   refine ge_block ?_
   refine ge_then ?_
   refine g_region ?_
   refine gl_v rfl (o_addR (((x + 1 : Nat) : Int)) (by rw [wr_i64 (by omega)]; omega) rfl rfl) ?_
   refine gl_v rfl (o_move rfl) ?_
   refine gl_nil ?_
   refine ge_round (x + 1) ⟨show x + 1 ≤ L.length by omega, any_none ht hq hc2⟩ (show L.length - (x + 1) < L.length - x by omega) (Keep.cons rfl (Keep.cons rfl (Keep.cons rfl (Keep.cons rfl (Keep.nil))))) (fun _ h => h)
 ·
  replace hc1 := hs_ hc1
  obtain rfl : x = L.length := by omega
  rw [List.take_length] at hq
  refine g_exit ?_
  refine ge_then_exit ?_
  refine ge_then_exit ?_
  refine ge_block_exit ?_
  refine ge_then ?_
  refine g_seq ?_
  refine g_region ?_
  refine gl_v rfl (o_assign rfl) ?_
  refine gl_nil ?_
  refine ge_then ?_
  refine g_ret ?_
  refine ret1 (.inl rfl) rfl rfl  Ms ⟨-1, ⟨fun h => absurd h (by decide), fun h => by rw [hq] at h; cases h⟩, rfl, rfl⟩ (fun _ h => h)

set_option maxRecDepth 8000 in
set_option maxHeartbeats 400000 in
theorem ConF_Cas (L : List Cas) (a : Option Addr) (c : Nat) (F : FuncId) [TFunc Tryz.prog F] (caps : List Value) (Ms : List Assn) (q : Cas → Bool) (hn : L.length ≤ 9223372036854775807) (hr : ∀ h, Sat Ms h → SlR h (.slice a L.length c) L.length (L.flatMap casC))
    (hp : ∀ x ∈ L, FnS Tryz.prog F ([.agg (casC x).toArray] ++ caps) Ms (fun u Bs => u = .bool (q x) ∧ Bs = Ms)) : FnS Tryz.prog 36 [.slice a L.length c, .func (.func F) #[] caps.toArray] Ms (fun u Bs => u = .bool (L.any q) ∧ Bs = Ms) := by
 refine fn_body Tryz.func36 rfl rfl rfl ?_
 intro W0 R
 simp only [List.zipIdx_cons, List.zipIdx_nil, List.map_cons, List.map_nil, Nat.zero_add, Nat.reduceAdd, List.cons_append, List.nil_append]
 refine g_seq ?_
 refine g_region ?_
 refine gl_v rfl (o_assign rfl) ?_
 refine gl_nil ?_
 refine ge_then ?_
 refine g_seq ?_
 refine g_region ?_
 refine gl_v rfl (o_move rfl) ?_
 refine gl_v rfl (o_move rfl) ?_
 refine gl_c rfl (o_call rfl (IdxF_Cas L a c F caps Ms q hn hr hp) part_app) ?_
 rintro _ R ⟨_, ⟨r, hrr, rfl, hm⟩, rfl⟩
 try simp only [List.cons_append, List.nil_append]
 obtain rfl := hm.symm
 refine gl_v rfl (o_geq rfl rfl) ?_
 refine gl_v rfl (o_assign rfl) ?_
 refine gl_nil ?_
 refine ge_then ?_
 refine g_ret ?_
 refine ret1 (.inl rfl) rfl rfl  Ms ⟨bool_v (by rw [Bool.eq_iff_iff, decide_eq_true_eq]; exact hrr), rfl⟩ (fun _ h => h)

set_option maxRecDepth 8000 in
set_option maxHeartbeats 400000 in
theorem IdxF_Knd (L : List Knd) (a : Option Addr) (c : Nat) (F : FuncId) [TFunc Tryz.prog F] (caps : List Value) (Ms : List Assn) (q : Knd → Bool) (hn : L.length ≤ 9223372036854775807) (hr : ∀ h, Sat Ms h → SlR h (.slice a L.length c) L.length (L.flatMap kndC))
    (hp : ∀ x ∈ L, FnS Tryz.prog F ([.agg (kndC x).toArray] ++ caps) Ms (fun u Bs => u = .bool (q x) ∧ Bs = Ms)) : FnS Tryz.prog 71 [.slice a L.length c, .func (.func F) #[] caps.toArray] Ms (fun u Bs => ∃ r : Int, (0 ≤ r ↔ L.any q = true) ∧ u = I64 r ∧ Bs = Ms) := by
 refine fn_body Tryz.func71 rfl rfl rfl ?_
 intro W0 R
 simp only [List.zipIdx_cons, List.zipIdx_nil, List.map_cons, List.map_nil, Nat.zero_add, Nat.reduceAdd, List.cons_append, List.nil_append]
 haveI := rd_app (R := R) hr
 refine g_seq ?_
 refine g_region ?_
 refine gl_v rfl (o_assign rfl) ?_
 refine gl_nil ?_
 refine ge_then ?_
 refine g_seq ?_
 refine g_seq ?_
 refine g_region ?_
 refine gl_v rfl (o_move rfl) ?_
 first | refine gl_v rfl (o_len rfl) ?_ | refine gl_v rfl (o_lenL rfl) ?_
 refine gl_v rfl (o_move rfl) ?_
 refine gl_nil ?_
 refine ge_then ?_
 refine g_block ?_
 refine g_loop (ι := Nat) (fun x => x ≤ L.length ∧ (L.take x).any q = false) (fun x => [(8, I64 x), (7, I64 L.length), (0, .slice a L.length c), (1, .func (.func F) #[] caps.toArray)]) (fun _ => Ms ++ R) (fun x => L.length - x) 0 (⟨Nat.zero_le _, rfl⟩) (Keep.cons rfl (Keep.cons rfl (Keep.cons rfl (Keep.cons rfl (Keep.nil))))) (fun _ h => h) ?_
 rintro x ⟨hx, hq⟩
 replace hx : x ≤ L.length := hx
 replace hq : (L.take x).any q = false := hq
 refine g_seq ?_
 refine g_region ?_
 refine gl_v rfl (o_lss rfl rfl) ?_
 refine gl_nil ?_
 refine ge_then ?_
 refine g_seq ?_
 refine g_cond rfl (fun hc1 => ?_) (fun hc1 => ?_)
 ·
  replace hc1 := hs_ hc1
  obtain ⟨t, ht⟩ : ∃ t, L[x]? = some t := ⟨_, List.getElem?_eq_getElem (show x < L.length by omega)⟩
  refine g_skip ?_
  refine ge_then ?_
  refine g_seq ?_
  refine g_block ?_
  refine g_seq ?_
  refine g_region ?_
  refine gl_v rfl (o_move rfl) ?_
  refine gl_v rfl (o_assign rfl) ?_
  refine gl_nil ?_
  refine ge_then ?_
  refine g_seq ?_
  refine g_region ?_
  refine gl_v rfl (o_move rfl) ?_
  refine gl_v rfl (o_move rfl) ?_
  refine gl_v rfl (o_move rfl) ?_
  refine gl_v rfl (o_idxS rfl rfl (show x < L.length by omega)) ?_
  refine gl_v rfl (o_loadSA rfl (flat_take kndC 5 kndC_len ht) rfl) ?_
  refine gl_c rfl (o_callV rfl rfl (hp t (List.mem_of_getElem? ht)) part_app) ?_
  rintro _ R ⟨_, ⟨rfl, hm⟩, rfl⟩
  try simp only [List.cons_append, List.nil_append]
  obtain rfl := hm.symm
  refine gl_nil ?_
  refine ge_then ?_
  refine g_cond rfl (fun hc2 => ?_) (fun hc2 => ?_)
  ·
   replace hc2 := hs_ hc2
   refine g_seq ?_
   refine g_region ?_
   refine gl_v rfl (o_move rfl) ?_
   refine gl_v rfl (o_assign rfl) ?_
   refine gl_nil ?_
   refine ge_then ?_
   refine g_ret ?_
   refine ge_block_ret ?_
   refine ge_then_ret ?_
   refine ge_then_ret ?_
   refine ge_block_ret ?_
   refine ge_then_ret ?_
   refine ret1 (.inl rfl) rfl rfl  Ms ⟨_, ⟨fun _ => List.any_eq_true.2 ⟨t, List.mem_of_getElem? ht, hc2⟩, fun _ => by omega⟩, rfl, rfl⟩ (fun _ h => h)
  ·
   replace hc2 := hs_ hc2
   refine g_skip ?_
   refine ge_block ?_
   refine ge_then ?_
   refine g_region ?_
   refine gl_v rfl (o_addR (((x + 1 : Nat) : Int)) (by rw [wr_i64 (by omega)]; omega) rfl rfl) ?_
   refine gl_v rfl (o_move rfl) ?_
   refine gl_nil ?_
   refine ge_round (x + 1) ⟨show x + 1 ≤ L.length by omega, any_none ht hq hc2⟩ (show L.length - (x + 1) < L.length - x by omega) (Keep.cons rfl (Keep.cons rfl (Keep.cons rfl (Keep.cons rfl (Keep.nil))))) (fun _ h => h)
 ·
  replace hc1 := hs_ hc1
  obtain rfl : x = L.length := by omega
  rw [List.take_length] at hq
  refine g_exit ?_
  refine ge_then_exit ?_
  refine ge_then_exit ?_
  refine ge_block_exit ?_
  refine ge_then ?_
  refine g_seq ?_
  refine g_region ?_
  refine gl_v rfl (o_assign rfl) ?_
  refine gl_nil ?_
  refine ge_then ?_
  refine g_ret ?_
  refine ret1 (.inl rfl) rfl rfl  Ms ⟨-1, ⟨fun h => absurd h (by decide), fun h => by rw [hq] at h; cases h⟩, rfl, rfl⟩ (fun _ h => h)

set_option maxRecDepth 8000 in
set_option maxHeartbeats 400000 in
theorem ConF_Knd (L : List Knd) (a : Option Addr) (c : Nat) (F : FuncId) [TFunc Tryz.prog F] (caps : List Value) (Ms : List Assn) (q : Knd → Bool) (hn : L.length ≤ 9223372036854775807) (hr : ∀ h, Sat Ms h → SlR h (.slice a L.length c) L.length (L.flatMap kndC))
    (hp : ∀ x ∈ L, FnS Tryz.prog F ([.agg (kndC x).toArray] ++ caps) Ms (fun u Bs => u = .bool (q x) ∧ Bs = Ms)) : FnS Tryz.prog 41 [.slice a L.length c, .func (.func F) #[] caps.toArray] Ms (fun u Bs => u = .bool (L.any q) ∧ Bs = Ms) := by
 refine fn_body Tryz.func41 rfl rfl rfl ?_
 intro W0 R
 simp only [List.zipIdx_cons, List.zipIdx_nil, List.map_cons, List.map_nil, Nat.zero_add, Nat.reduceAdd, List.cons_append, List.nil_append]
 refine g_seq ?_
 refine g_region ?_
 refine gl_v rfl (o_assign rfl) ?_
 refine gl_nil ?_
 refine ge_then ?_
 refine g_seq ?_
 refine g_region ?_
 refine gl_v rfl (o_move rfl) ?_
 refine gl_v rfl (o_move rfl) ?_
 refine gl_c rfl (o_call rfl (IdxF_Knd L a c F caps Ms q hn hr hp) part_app) ?_
 rintro _ R ⟨_, ⟨r, hrr, rfl, hm⟩, rfl⟩
 try simp only [List.cons_append, List.nil_append]
 obtain rfl := hm.symm
 refine gl_v rfl (o_geq rfl rfl) ?_
 refine gl_v rfl (o_assign rfl) ?_
 refine gl_nil ?_
 refine ge_then ?_
 refine g_ret ?_
 refine ret1 (.inl rfl) rfl rfl  Ms ⟨bool_v (by rw [Bool.eq_iff_iff, decide_eq_true_eq]; exact hrr), rfl⟩ (fun _ h => h)

set_option maxRecDepth 8000 in
set_option maxHeartbeats 400000 in
theorem IdxF_Sta (L : List Sta) (a : Option Addr) (c : Nat) (F : FuncId) [TFunc Tryz.prog F] (caps : List Value) (Ms : List Assn) (q : Sta → Bool) (hn : L.length ≤ 9223372036854775807) (hr : ∀ h, Sat Ms h → SlR h (.slice a L.length c) L.length (L.flatMap staC))
    (hp : ∀ x ∈ L, FnS Tryz.prog F ([.agg (staC x).toArray] ++ caps) Ms (fun u Bs => u = .bool (q x) ∧ Bs = Ms)) : FnS Tryz.prog 91 [.slice a L.length c, .func (.func F) #[] caps.toArray] Ms (fun u Bs => ∃ r : Int, (0 ≤ r ↔ L.any q = true) ∧ u = I64 r ∧ Bs = Ms) := by
 refine fn_body Tryz.func91 rfl rfl rfl ?_
 intro W0 R
 simp only [List.zipIdx_cons, List.zipIdx_nil, List.map_cons, List.map_nil, Nat.zero_add, Nat.reduceAdd, List.cons_append, List.nil_append]
 haveI := rd_app (R := R) hr
 refine g_seq ?_
 refine g_region ?_
 refine gl_v rfl (o_assign rfl) ?_
 refine gl_nil ?_
 refine ge_then ?_
 refine g_seq ?_
 refine g_seq ?_
 refine g_region ?_
 refine gl_v rfl (o_move rfl) ?_
 first | refine gl_v rfl (o_len rfl) ?_ | refine gl_v rfl (o_lenL rfl) ?_
 refine gl_v rfl (o_move rfl) ?_
 refine gl_nil ?_
 refine ge_then ?_
 refine g_block ?_
 refine g_loop (ι := Nat) (fun x => x ≤ L.length ∧ (L.take x).any q = false) (fun x => [(8, I64 x), (7, I64 L.length), (0, .slice a L.length c), (1, .func (.func F) #[] caps.toArray)]) (fun _ => Ms ++ R) (fun x => L.length - x) 0 (⟨Nat.zero_le _, rfl⟩) (Keep.cons rfl (Keep.cons rfl (Keep.cons rfl (Keep.cons rfl (Keep.nil))))) (fun _ h => h) ?_
 rintro x ⟨hx, hq⟩
 replace hx : x ≤ L.length := hx
 replace hq : (L.take x).any q = false := hq
 refine g_seq ?_
 refine g_region ?_
 refine gl_v rfl (o_lss rfl rfl) ?_
 refine gl_nil ?_
 refine ge_then ?_
 refine g_seq ?_
 refine g_cond rfl (fun hc1 => ?_) (fun hc1 => ?_)
 ·
  replace hc1 := hs_ hc1
  obtain ⟨t, ht⟩ : ∃ t, L[x]? = some t := ⟨_, List.getElem?_eq_getElem (show x < L.length by omega)⟩
  refine g_skip ?_
  refine ge_then ?_
  refine g_seq ?_
  refine g_block ?_
  refine g_seq ?_
  refine g_region ?_
  refine gl_v rfl (o_move rfl) ?_
  refine gl_v rfl (o_assign rfl) ?_
  refine gl_nil ?_
  refine ge_then ?_
  refine g_seq ?_
  refine g_region ?_
  refine gl_v rfl (o_move rfl) ?_
  refine gl_v rfl (o_move rfl) ?_
  refine gl_v rfl (o_move rfl) ?_
  refine gl_v rfl (o_idxS rfl rfl (show x < L.length by omega)) ?_
  refine gl_v rfl (o_loadSA rfl (flat_take staC 2 staC_len ht) rfl) ?_
  refine gl_c rfl (o_callV rfl rfl (hp t (List.mem_of_getElem? ht)) part_app) ?_
  rintro _ R ⟨_, ⟨rfl, hm⟩, rfl⟩
  try simp only [List.cons_append, List.nil_append]
  obtain rfl := hm.symm
  refine gl_nil ?_
  refine ge_then ?_
  refine g_cond rfl (fun hc2 => ?_) (fun hc2 => ?_)
  ·
   replace hc2 := hs_ hc2
   refine g_seq ?_
   refine g_region ?_
   refine gl_v rfl (o_move rfl) ?_
   refine gl_v rfl (o_assign rfl) ?_
   refine gl_nil ?_
   refine ge_then ?_
   refine g_ret ?_
   refine ge_block_ret ?_
   refine ge_then_ret ?_
   refine ge_then_ret ?_
   refine ge_block_ret ?_
   refine ge_then_ret ?_
   refine ret1 (.inl rfl) rfl rfl  Ms ⟨_, ⟨fun _ => List.any_eq_true.2 ⟨t, List.mem_of_getElem? ht, hc2⟩, fun _ => by omega⟩, rfl, rfl⟩ (fun _ h => h)
  ·
   replace hc2 := hs_ hc2
   refine g_skip ?_
   refine ge_block ?_
   refine ge_then ?_
   refine g_region ?_
   refine gl_v rfl (o_addR (((x + 1 : Nat) : Int)) (by rw [wr_i64 (by omega)]; omega) rfl rfl) ?_
   refine gl_v rfl (o_move rfl) ?_
   refine gl_nil ?_
   refine ge_round (x + 1) ⟨show x + 1 ≤ L.length by omega, any_none ht hq hc2⟩ (show L.length - (x + 1) < L.length - x by omega) (Keep.cons rfl (Keep.cons rfl (Keep.cons rfl (Keep.cons rfl (Keep.nil))))) (fun _ h => h)
 ·
  replace hc1 := hs_ hc1
  obtain rfl : x = L.length := by omega
  rw [List.take_length] at hq
  refine g_exit ?_
  refine ge_then_exit ?_
  refine ge_then_exit ?_
  refine ge_block_exit ?_
  refine ge_then ?_
  refine g_seq ?_
  refine g_region ?_
  refine gl_v rfl (o_assign rfl) ?_
  refine gl_nil ?_
  refine ge_then ?_
  refine g_ret ?_
  refine ret1 (.inl rfl) rfl rfl  Ms ⟨-1, ⟨fun h => absurd h (by decide), fun h => by rw [hq] at h; cases h⟩, rfl, rfl⟩ (fun _ h => h)

set_option maxRecDepth 8000 in
set_option maxHeartbeats 400000 in
theorem ConF_Sta (L : List Sta) (a : Option Addr) (c : Nat) (F : FuncId) [TFunc Tryz.prog F] (caps : List Value) (Ms : List Assn) (q : Sta → Bool) (hn : L.length ≤ 9223372036854775807) (hr : ∀ h, Sat Ms h → SlR h (.slice a L.length c) L.length (L.flatMap staC))
    (hp : ∀ x ∈ L, FnS Tryz.prog F ([.agg (staC x).toArray] ++ caps) Ms (fun u Bs => u = .bool (q x) ∧ Bs = Ms)) : FnS Tryz.prog 72 [.slice a L.length c, .func (.func F) #[] caps.toArray] Ms (fun u Bs => u = .bool (L.any q) ∧ Bs = Ms) := by
 refine fn_body Tryz.func72 rfl rfl rfl ?_
 intro W0 R
 simp only [List.zipIdx_cons, List.zipIdx_nil, List.map_cons, List.map_nil, Nat.zero_add, Nat.reduceAdd, List.cons_append, List.nil_append]
 refine g_seq ?_
 refine g_region ?_
 refine gl_v rfl (o_assign rfl) ?_
 refine gl_nil ?_
 refine ge_then ?_
 refine g_seq ?_
 refine g_region ?_
 refine gl_v rfl (o_move rfl) ?_
 refine gl_v rfl (o_move rfl) ?_
 refine gl_c rfl (o_call rfl (IdxF_Sta L a c F caps Ms q hn hr hp) part_app) ?_
 rintro _ R ⟨_, ⟨r, hrr, rfl, hm⟩, rfl⟩
 try simp only [List.cons_append, List.nil_append]
 obtain rfl := hm.symm
 refine gl_v rfl (o_geq rfl rfl) ?_
 refine gl_v rfl (o_assign rfl) ?_
 refine gl_nil ?_
 refine ge_then ?_
 refine g_ret ?_
 refine ret1 (.inl rfl) rfl rfl  Ms ⟨bool_v (by rw [Bool.eq_iff_iff, decide_eq_true_eq]; exact hrr), rfl⟩ (fun _ h => h)

set_option maxRecDepth 8000 in
set_option maxHeartbeats 400000 in
theorem IdxF_Eff (L : List Eff) (a : Option Addr) (c : Nat) (F : FuncId) [TFunc Tryz.prog F] (caps : List Value) (Ms : List Assn) (q : Eff → Bool) (hn : L.length ≤ 9223372036854775807) (hr : ∀ h, Sat Ms h → SlR h (.slice a L.length c) L.length (L.flatMap effC))
    (hp : ∀ x ∈ L, FnS Tryz.prog F ([.agg (effC x).toArray] ++ caps) Ms (fun u Bs => u = .bool (q x) ∧ Bs = Ms)) : FnS Tryz.prog 108 [.slice a L.length c, .func (.func F) #[] caps.toArray] Ms (fun u Bs => ∃ r : Int, (0 ≤ r ↔ L.any q = true) ∧ u = I64 r ∧ Bs = Ms) := by
 refine fn_body Tryz.func108 rfl rfl rfl ?_
 intro W0 R
 simp only [List.zipIdx_cons, List.zipIdx_nil, List.map_cons, List.map_nil, Nat.zero_add, Nat.reduceAdd, List.cons_append, List.nil_append]
 haveI := rd_app (R := R) hr
 refine g_seq ?_
 refine g_region ?_
 refine gl_v rfl (o_assign rfl) ?_
 refine gl_nil ?_
 refine ge_then ?_
 refine g_seq ?_
 refine g_seq ?_
 refine g_region ?_
 refine gl_v rfl (o_move rfl) ?_
 first | refine gl_v rfl (o_len rfl) ?_ | refine gl_v rfl (o_lenL rfl) ?_
 refine gl_v rfl (o_move rfl) ?_
 refine gl_nil ?_
 refine ge_then ?_
 refine g_block ?_
 refine g_loop (ι := Nat) (fun x => x ≤ L.length ∧ (L.take x).any q = false) (fun x => [(8, I64 x), (7, I64 L.length), (0, .slice a L.length c), (1, .func (.func F) #[] caps.toArray)]) (fun _ => Ms ++ R) (fun x => L.length - x) 0 (⟨Nat.zero_le _, rfl⟩) (Keep.cons rfl (Keep.cons rfl (Keep.cons rfl (Keep.cons rfl (Keep.nil))))) (fun _ h => h) ?_
 rintro x ⟨hx, hq⟩
 replace hx : x ≤ L.length := hx
 replace hq : (L.take x).any q = false := hq
 refine g_seq ?_
 refine g_region ?_
 refine gl_v rfl (o_lss rfl rfl) ?_
 refine gl_nil ?_
 refine ge_then ?_
 refine g_seq ?_
 refine g_cond rfl (fun hc1 => ?_) (fun hc1 => ?_)
 ·
  replace hc1 := hs_ hc1
  obtain ⟨t, ht⟩ : ∃ t, L[x]? = some t := ⟨_, List.getElem?_eq_getElem (show x < L.length by omega)⟩
  refine g_skip ?_
  refine ge_then ?_
  refine g_seq ?_
  refine g_block ?_
  refine g_seq ?_
  refine g_region ?_
  refine gl_v rfl (o_move rfl) ?_
  refine gl_v rfl (o_assign rfl) ?_
  refine gl_nil ?_
  refine ge_then ?_
  refine g_seq ?_
  refine g_region ?_
  refine gl_v rfl (o_move rfl) ?_
  refine gl_v rfl (o_move rfl) ?_
  refine gl_v rfl (o_move rfl) ?_
  refine gl_v rfl (o_idxS rfl rfl (show x < L.length by omega)) ?_
  refine gl_v rfl (o_loadSA rfl (flat_take effC 7 effC_len ht) rfl) ?_
  refine gl_c rfl (o_callV rfl rfl (hp t (List.mem_of_getElem? ht)) part_app) ?_
  rintro _ R ⟨_, ⟨rfl, hm⟩, rfl⟩
  try simp only [List.cons_append, List.nil_append]
  obtain rfl := hm.symm
  refine gl_nil ?_
  refine ge_then ?_
  refine g_cond rfl (fun hc2 => ?_) (fun hc2 => ?_)
  ·
   replace hc2 := hs_ hc2
   refine g_seq ?_
   refine g_region ?_
   refine gl_v rfl (o_move rfl) ?_
   refine gl_v rfl (o_assign rfl) ?_
   refine gl_nil ?_
   refine ge_then ?_
   refine g_ret ?_
   refine ge_block_ret ?_
   refine ge_then_ret ?_
   refine ge_then_ret ?_
   refine ge_block_ret ?_
   refine ge_then_ret ?_
   refine ret1 (.inl rfl) rfl rfl  Ms ⟨_, ⟨fun _ => List.any_eq_true.2 ⟨t, List.mem_of_getElem? ht, hc2⟩, fun _ => by omega⟩, rfl, rfl⟩ (fun _ h => h)
  ·
   replace hc2 := hs_ hc2
   refine g_skip ?_
   refine ge_block ?_
   refine ge_then ?_
   refine g_region ?_
   refine gl_v rfl (o_addR (((x + 1 : Nat) : Int)) (by rw [wr_i64 (by omega)]; omega) rfl rfl) ?_
   refine gl_v rfl (o_move rfl) ?_
   refine gl_nil ?_
   refine ge_round (x + 1) ⟨show x + 1 ≤ L.length by omega, any_none ht hq hc2⟩ (show L.length - (x + 1) < L.length - x by omega) (Keep.cons rfl (Keep.cons rfl (Keep.cons rfl (Keep.cons rfl (Keep.nil))))) (fun _ h => h)
 ·
  replace hc1 := hs_ hc1
  obtain rfl : x = L.length := by omega
  rw [List.take_length] at hq
  refine g_exit ?_
  refine ge_then_exit ?_
  refine ge_then_exit ?_
  refine ge_block_exit ?_
  refine ge_then ?_
  refine g_seq ?_
  refine g_region ?_
  refine gl_v rfl (o_assign rfl) ?_
  refine gl_nil ?_
  refine ge_then ?_
  refine g_ret ?_
  refine ret1 (.inl rfl) rfl rfl  Ms ⟨-1, ⟨fun h => absurd h (by decide), fun h => by rw [hq] at h; cases h⟩, rfl, rfl⟩ (fun _ h => h)

set_option maxRecDepth 8000 in
set_option maxHeartbeats 400000 in
theorem ConF_Eff (L : List Eff) (a : Option Addr) (c : Nat) (F : FuncId) [TFunc Tryz.prog F] (caps : List Value) (Ms : List Assn) (q : Eff → Bool) (hn : L.length ≤ 9223372036854775807) (hr : ∀ h, Sat Ms h → SlR h (.slice a L.length c) L.length (L.flatMap effC))
    (hp : ∀ x ∈ L, FnS Tryz.prog F ([.agg (effC x).toArray] ++ caps) Ms (fun u Bs => u = .bool (q x) ∧ Bs = Ms)) : FnS Tryz.prog 92 [.slice a L.length c, .func (.func F) #[] caps.toArray] Ms (fun u Bs => u = .bool (L.any q) ∧ Bs = Ms) := by
 refine fn_body Tryz.func92 rfl rfl rfl ?_
 intro W0 R
 simp only [List.zipIdx_cons, List.zipIdx_nil, List.map_cons, List.map_nil, Nat.zero_add, Nat.reduceAdd, List.cons_append, List.nil_append]
 refine g_seq ?_
 refine g_region ?_
 refine gl_v rfl (o_assign rfl) ?_
 refine gl_nil ?_
 refine ge_then ?_
 refine g_seq ?_
 refine g_region ?_
 refine gl_v rfl (o_move rfl) ?_
 refine gl_v rfl (o_move rfl) ?_
 refine gl_c rfl (o_call rfl (IdxF_Eff L a c F caps Ms q hn hr hp) part_app) ?_
 rintro _ R ⟨_, ⟨r, hrr, rfl, hm⟩, rfl⟩
 try simp only [List.cons_append, List.nil_append]
 obtain rfl := hm.symm
 refine gl_v rfl (o_geq rfl rfl) ?_
 refine gl_v rfl (o_assign rfl) ?_
 refine gl_nil ?_
 refine ge_then ?_
 refine g_ret ?_
 refine ret1 (.inl rfl) rfl rfl  Ms ⟨bool_v (by rw [Bool.eq_iff_iff, decide_eq_true_eq]; exact hrr), rfl⟩ (fun _ h => h)

set_option maxRecDepth 8000 in
set_option maxHeartbeats 400000 in
theorem IdxF_Row (L : List Row) (a : Option Addr) (c : Nat) (F : FuncId) [TFunc Tryz.prog F] (caps : List Value) (Ms : List Assn) (q : Row → Bool) (hn : L.length ≤ 9223372036854775807) (hr : ∀ h, Sat Ms h → SlR h (.slice a L.length c) L.length (L.flatMap rowC))
    (hp : ∀ x ∈ L, FnS Tryz.prog F ([.agg (rowC x).toArray] ++ caps) Ms (fun u Bs => u = .bool (q x) ∧ Bs = Ms)) : FnS Tryz.prog 109 [.slice a L.length c, .func (.func F) #[] caps.toArray] Ms (fun u Bs => ∃ r : Int, (0 ≤ r ↔ L.any q = true) ∧ u = I64 r ∧ Bs = Ms) := by
 refine fn_body Tryz.func109 rfl rfl rfl ?_
 intro W0 R
 simp only [List.zipIdx_cons, List.zipIdx_nil, List.map_cons, List.map_nil, Nat.zero_add, Nat.reduceAdd, List.cons_append, List.nil_append]
 haveI := rd_app (R := R) hr
 refine g_seq ?_
 refine g_region ?_
 refine gl_v rfl (o_assign rfl) ?_
 refine gl_nil ?_
 refine ge_then ?_
 refine g_seq ?_
 refine g_seq ?_
 refine g_region ?_
 refine gl_v rfl (o_move rfl) ?_
 first | refine gl_v rfl (o_len rfl) ?_ | refine gl_v rfl (o_lenL rfl) ?_
 refine gl_v rfl (o_move rfl) ?_
 refine gl_nil ?_
 refine ge_then ?_
 refine g_block ?_
 refine g_loop (ι := Nat) (fun x => x ≤ L.length ∧ (L.take x).any q = false) (fun x => [(8, I64 x), (7, I64 L.length), (0, .slice a L.length c), (1, .func (.func F) #[] caps.toArray)]) (fun _ => Ms ++ R) (fun x => L.length - x) 0 (⟨Nat.zero_le _, rfl⟩) (Keep.cons rfl (Keep.cons rfl (Keep.cons rfl (Keep.cons rfl (Keep.nil))))) (fun _ h => h) ?_
 rintro x ⟨hx, hq⟩
 replace hx : x ≤ L.length := hx
 replace hq : (L.take x).any q = false := hq
 refine g_seq ?_
 refine g_region ?_
 refine gl_v rfl (o_lss rfl rfl) ?_
 refine gl_nil ?_
 refine ge_then ?_
 refine g_seq ?_
 refine g_cond rfl (fun hc1 => ?_) (fun hc1 => ?_)
 ·
  replace hc1 := hs_ hc1
  obtain ⟨t, ht⟩ : ∃ t, L[x]? = some t := ⟨_, List.getElem?_eq_getElem (show x < L.length by omega)⟩
  refine g_skip ?_
  refine ge_then ?_
  refine g_seq ?_
  refine g_block ?_
  refine g_seq ?_
  refine g_region ?_
  refine gl_v rfl (o_move rfl) ?_
  refine gl_v rfl (o_assign rfl) ?_
  refine gl_nil ?_
  refine ge_then ?_
  refine g_seq ?_
  refine g_region ?_
  refine gl_v rfl (o_move rfl) ?_
  refine gl_v rfl (o_move rfl) ?_
  refine gl_v rfl (o_move rfl) ?_
  refine gl_v rfl (o_idxS rfl rfl (show x < L.length by omega)) ?_
  refine gl_v rfl (o_loadSA rfl (flat_take rowC 4 rowC_len ht) rfl) ?_
  refine gl_c rfl (o_callV rfl rfl (hp t (List.mem_of_getElem? ht)) part_app) ?_
  rintro _ R ⟨_, ⟨rfl, hm⟩, rfl⟩
  try simp only [List.cons_append, List.nil_append]
  obtain rfl := hm.symm
  refine gl_nil ?_
  refine ge_then ?_
  refine g_cond rfl (fun hc2 => ?_) (fun hc2 => ?_)
  ·
   replace hc2 := hs_ hc2
   refine g_seq ?_
   refine g_region ?_
   refine gl_v rfl (o_move rfl) ?_
   refine gl_v rfl (o_assign rfl) ?_
   refine gl_nil ?_
   refine ge_then ?_
   refine g_ret ?_
   refine ge_block_ret ?_
   refine ge_then_ret ?_
   refine ge_then_ret ?_
   refine ge_block_ret ?_
   refine ge_then_ret ?_
   refine ret1 (.inl rfl) rfl rfl  Ms ⟨_, ⟨fun _ => List.any_eq_true.2 ⟨t, List.mem_of_getElem? ht, hc2⟩, fun _ => by omega⟩, rfl, rfl⟩ (fun _ h => h)
  ·
   replace hc2 := hs_ hc2
   refine g_skip ?_
   refine ge_block ?_
   refine ge_then ?_
   refine g_region ?_
   refine gl_v rfl (o_addR (((x + 1 : Nat) : Int)) (by rw [wr_i64 (by omega)]; omega) rfl rfl) ?_
   refine gl_v rfl (o_move rfl) ?_
   refine gl_nil ?_
   refine ge_round (x + 1) ⟨show x + 1 ≤ L.length by omega, any_none ht hq hc2⟩ (show L.length - (x + 1) < L.length - x by omega) (Keep.cons rfl (Keep.cons rfl (Keep.cons rfl (Keep.cons rfl (Keep.nil))))) (fun _ h => h)
 ·
  replace hc1 := hs_ hc1
  obtain rfl : x = L.length := by omega
  rw [List.take_length] at hq
  refine g_exit ?_
  refine ge_then_exit ?_
  refine ge_then_exit ?_
  refine ge_block_exit ?_
  refine ge_then ?_
  refine g_seq ?_
  refine g_region ?_
  refine gl_v rfl (o_assign rfl) ?_
  refine gl_nil ?_
  refine ge_then ?_
  refine g_ret ?_
  refine ret1 (.inl rfl) rfl rfl  Ms ⟨-1, ⟨fun h => absurd h (by decide), fun h => by rw [hq] at h; cases h⟩, rfl, rfl⟩ (fun _ h => h)

set_option maxRecDepth 8000 in
set_option maxHeartbeats 400000 in
theorem ConF_Row (L : List Row) (a : Option Addr) (c : Nat) (F : FuncId) [TFunc Tryz.prog F] (caps : List Value) (Ms : List Assn) (q : Row → Bool) (hn : L.length ≤ 9223372036854775807) (hr : ∀ h, Sat Ms h → SlR h (.slice a L.length c) L.length (L.flatMap rowC))
    (hp : ∀ x ∈ L, FnS Tryz.prog F ([.agg (rowC x).toArray] ++ caps) Ms (fun u Bs => u = .bool (q x) ∧ Bs = Ms)) : FnS Tryz.prog 94 [.slice a L.length c, .func (.func F) #[] caps.toArray] Ms (fun u Bs => u = .bool (L.any q) ∧ Bs = Ms) := by
 refine fn_body Tryz.func94 rfl rfl rfl ?_
 intro W0 R
 simp only [List.zipIdx_cons, List.zipIdx_nil, List.map_cons, List.map_nil, Nat.zero_add, Nat.reduceAdd, List.cons_append, List.nil_append]
 refine g_seq ?_
 refine g_region ?_
 refine gl_v rfl (o_assign rfl) ?_
 refine gl_nil ?_
 refine ge_then ?_
 refine g_seq ?_
 refine g_region ?_
 refine gl_v rfl (o_move rfl) ?_
 refine gl_v rfl (o_move rfl) ?_
 refine gl_c rfl (o_call rfl (IdxF_Row L a c F caps Ms q hn hr hp) part_app) ?_
 rintro _ R ⟨_, ⟨r, hrr, rfl, hm⟩, rfl⟩
 try simp only [List.cons_append, List.nil_append]
 obtain rfl := hm.symm
 refine gl_v rfl (o_geq rfl rfl) ?_
 refine gl_v rfl (o_assign rfl) ?_
 refine gl_nil ?_
 refine ge_then ?_
 refine g_ret ?_
 refine ret1 (.inl rfl) rfl rfl  Ms ⟨bool_v (by rw [Bool.eq_iff_iff, decide_eq_true_eq]; exact hrr), rfl⟩ (fun _ h => h)

set_option maxRecDepth 8000 in
set_option maxHeartbeats 400000 in
theorem first_spec (L : List (Bool × Int)) (b : Nat) (hL : L.length ≤ 100) : FnS Tryz.prog 13 [.slice (some ⟨b, 0, none⟩) L.length L.length] [cel b 45 (L.flatMap ruC)] (fun u Bs => u = I64 (firstR L) ∧ Bs = [cel b 45 (L.flatMap ruC)]) := by
 refine fn_body Tryz.func13 rfl rfl rfl ?_
 intro W0 R
 simp only [List.zipIdx_cons, List.zipIdx_nil, List.map_cons, List.map_nil, Nat.zero_add, Nat.reduceAdd, List.cons_append, List.nil_append]
 refine g_seq ?_
 refine g_region ?_
 refine gl_v rfl (o_assign rfl) ?_
 refine gl_nil ?_
 refine ge_then ?_
 refine g_seq ?_
 refine g_seq ?_
 refine g_region ?_
 refine gl_v rfl (o_move rfl) ?_
 refine gl_v rfl (o_lenL rfl) ?_
 refine gl_v rfl (o_move rfl) ?_
 refine gl_nil ?_
 refine ge_then ?_
 refine g_block ?_
 refine g_loop (ι := Nat) (fun x => x ≤ L.length ∧ firstR L = firstR (L.drop x)) (fun x => [(7, I64 x), (6, I64 L.length), (5, .slice (some ⟨b, 0, none⟩) L.length L.length)]) (fun _ => cel b 45 (L.flatMap ruC) :: R) (fun x => L.length - x) 0 (⟨Nat.zero_le _, rfl⟩) (Keep.cons rfl (Keep.cons rfl (Keep.cons rfl (Keep.nil)))) (tO) ?_
 rintro x ⟨hx, hq⟩
 replace hx : x ≤ L.length := hx
 replace hq : firstR L = firstR (L.drop x) := hq
 refine g_seq ?_
 refine g_region ?_
 refine gl_v rfl (o_lss rfl rfl) ?_
 refine gl_nil ?_
 refine ge_then ?_
 refine g_seq ?_
 refine g_cond rfl (fun hc1 => ?_) (fun hc1 => ?_)
 ·
  replace hc1 := hs_ hc1
  obtain ⟨t, ht⟩ : ∃ t, L[x]? = some t := ⟨_, List.getElem?_eq_getElem (show x < L.length by omega)⟩
  refine g_skip ?_
  refine ge_then ?_
  refine g_seq ?_
  refine g_block ?_
  refine g_seq ?_
  refine g_region ?_
  refine gl_v rfl (o_idxS rfl rfl (show x < L.length by omega)) ?_
  refine gl_v rfl (o_loadSA rfl (flat_take ruC 2 ruC_len ht) rfl) ?_
  refine gl_n rfl (o_alloc) ?_
  rintro _ _ ⟨b4, rfl, rfl⟩
  first | refine gl_u (o_storeSA rfl rfl rfl rfl (by simp; omega) (by simp)) ?_ | refine gl_u (o_storeA rfl rfl rfl rfl rfl) ?_
  refine gl_nil ?_
  refine ge_then ?_
  refine g_seq ?_
  refine g_region ?_
  first | refine gl_v rfl (o_fldS rfl) ?_ | refine gl_v rfl (o_fld rfl) ?_
  first | refine gl_v rfl (o_load rfl rfl) ?_ | refine gl_v rfl (o_loadS rfl rfl) ?_ | refine gl_v rfl (o_loadC rfl) ?_
  refine gl_nil ?_
  refine ge_then ?_
  refine g_cond rfl (fun hc2 => ?_) (fun hc2 => ?_)
  ·
   replace hc2 := hs_ hc2
   refine g_seq ?_
   refine g_region ?_
   first | refine gl_v rfl (o_fldS rfl) ?_ | refine gl_v rfl (o_fld rfl) ?_
   first | refine gl_v rfl (o_load rfl rfl) ?_ | refine gl_v rfl (o_loadS rfl rfl) ?_ | refine gl_v rfl (o_loadC rfl) ?_
   refine gl_v rfl (o_assign rfl) ?_
   refine gl_nil ?_
   refine ge_then ?_
   refine g_ret ?_
   refine ge_block_ret ?_
   refine ge_then_ret ?_
   refine ge_then_ret ?_
   refine ge_block_ret ?_
   refine ge_then_ret ?_
   refine ret1 (.inl rfl) rfl rfl _ (⟨by rw [hq, firstR_drop ht, if_pos hc2], rfl⟩) (tO)
  ·
   replace hc2 := hs_ hc2
   refine g_skip ?_
   refine ge_block ?_
   refine ge_then ?_
   refine g_region ?_
   refine gl_v rfl (o_addR (((x + 1 : Nat) : Int)) (by rw [wr_i64 (by omega)]; omega) rfl rfl) ?_
   refine gl_v rfl (o_move rfl) ?_
   refine gl_nil ?_
   refine ge_round (x + 1) ⟨show x + 1 ≤ L.length by omega, by rw [hq, firstR_drop ht, if_neg (by rw [hc2]; decide)]⟩ (show L.length - (x + 1) < L.length - x by omega) (Keep.cons rfl (Keep.cons rfl (Keep.cons rfl (Keep.nil)))) (tO)
 ·
  replace hc1 := hs_ hc1
  obtain rfl : x = L.length := by omega
  rw [List.drop_length] at hq
  refine g_exit ?_
  refine ge_then_exit ?_
  refine ge_then_exit ?_
  refine ge_block_exit ?_
  refine ge_then ?_
  refine g_seq ?_
  refine g_region ?_
  refine gl_v rfl (o_assign rfl) ?_
  refine gl_nil ?_
  refine ge_then ?_
  refine g_ret ?_
  refine ret1 (.inl rfl) rfl rfl _ (⟨by rw [hq]; rfl, rfl⟩) (tO)

set_option maxRecDepth 8000 in
set_option maxHeartbeats 400000 in
theorem in_none (i : Int) : FnS Tryz.prog 35 [I64 i, .pointer none] [] (fun u Bs => u = .pointer none ∧ Bs = []) := by
 refine fn_body Tryz.func35 rfl rfl rfl ?_
 intro W0 R
 simp only [List.zipIdx_cons, List.zipIdx_nil, List.map_cons, List.map_nil, Nat.zero_add, Nat.reduceAdd, List.cons_append, List.nil_append]
 refine g_seq ?_
 refine g_region ?_
 refine gl_v rfl (o_assign rfl) ?_
 refine gl_nil ?_
 refine ge_then ?_
 refine g_seq ?_
 refine g_seq ?_
 refine g_region ?_
 refine gl_v rfl (o_move rfl) ?_
 refine gl_v rfl (o_neqnn rfl rfl) ?_
 refine gl_nil ?_
 refine ge_then ?_
 refine g_cond_false rfl ?_
 refine g_skip ?_
 refine ge_then ?_
 refine g_seq ?_
 refine g_region ?_
 refine gl_v rfl (o_move rfl) ?_
 refine gl_v rfl (o_assign rfl) ?_
 refine gl_nil ?_
 refine ge_then ?_
 refine g_ret ?_
 refine ret1 (.inl rfl) rfl rfl _ (⟨rfl, rfl⟩) (tO)

set_option maxRecDepth 8000 in
set_option maxHeartbeats 400000 in
theorem in_some (i b : Nat) (a : Option Addr) (cp : Nat) (c : Int) (ws : List Int) (hw : ws.length ≤ 10) (hi : i < 9223372036854775807) : FnS Tryz.prog 35 [I64 i, ptr b 0] [cel b BT [I64 c, .slice a ws.length cp], intsA a cp ws] (fun u Bs => ∃ a' cp', u = ptr b 0 ∧ Bs = [cel b BT [I64 c, .slice a' (ws.length + 1) cp'], intsA a' cp' (((i + 1 : Nat) : Int) :: ws)]) := by
 refine fn_body Tryz.func35 rfl rfl rfl ?_
 intro W0 R
 simp only [List.zipIdx_cons, List.zipIdx_nil, List.map_cons, List.map_nil, Nat.zero_add, Nat.reduceAdd, List.cons_append, List.nil_append]
 refine g_seq ?_
 refine g_region ?_
 refine gl_v rfl (o_assign rfl) ?_
 refine gl_nil ?_
 refine ge_then ?_
 refine g_seq ?_
 refine g_seq ?_
 refine g_region ?_
 refine gl_v rfl (o_move rfl) ?_
 refine gl_v rfl (o_neqPn rfl rfl) ?_
 refine gl_nil ?_
 refine ge_then ?_
 refine g_cond_true rfl ?_
 refine g_region ?_
 refine gl_v rfl (o_move rfl) ?_
 refine gl_v rfl (o_move rfl) ?_
 refine gl_v rfl (o_nil rfl) ?_
 first | refine gl_v rfl (o_fldS rfl) ?_ | refine gl_v rfl (o_fld rfl) ?_
 first | refine gl_v rfl (o_load rfl rfl) ?_ | refine gl_v rfl (o_loadS rfl rfl) ?_ | refine gl_v rfl (o_loadC rfl) ?_
 refine gl_v rfl (o_move rfl) ?_
 refine gl_v rfl (o_addR (((i + 1 : Nat) : Int)) (by rw [wr_i64 (by omega)]; omega) rfl rfl) ?_
 refine gl_n rfl (o_buildS1 rfl rfl rfl) ?_
 rintro _ _ ⟨b14, rfl, rfl⟩
 refine gl_c rfl (o_call rfl (Insert0 a cp ws ((i + 1 : Nat) : Int) b14 (by omega)) pA) ?_
 rintro _ R ⟨_, ⟨a', cp', rfl, rfl⟩, rfl⟩
 try simp only [List.cons_append, List.nil_append]
 refine gl_v rfl (o_nil rfl) ?_
 first | refine gl_v rfl (o_fldS rfl) ?_ | refine gl_v rfl (o_fld rfl) ?_
 first | refine gl_u (o_store rfl rfl rfl rfl) ?_ | refine gl_u (o_storeS rfl rfl rfl (by first | assumption | omega | simp)) ?_
 refine gl_nil ?_
 refine ge_then ?_
 refine g_seq ?_
 refine g_region ?_
 refine gl_v rfl (o_move rfl) ?_
 refine gl_v rfl (o_assign rfl) ?_
 refine gl_nil ?_
 refine ge_then ?_
 refine g_ret ?_
 refine ret1 (.inl rfl) rfl rfl _ (⟨_, _, rfl, rfl⟩) (tO)

theorem hp_none {P : Program} {F : FuncId} {args : List Value} {Ms : List Assn} {r : Flt} (h : FnS P F args Ms (BadP r Ms)) (e : r = none) : FnS P F args Ms (fun u Bs => u = .pointer none ∧ Bs = Ms) := by subst e; exact h
theorem hp_some {P : Program} {F : FuncId} {args : List Value} {Ms : List Assn} {r : Flt} {c : Int} {ws : List Int} (h : FnS P F args Ms (BadP r Ms)) (e : r = some (c, ws)) : FnS P F args Ms (fun u Bs => ∃ b a cp, u = ptr b 0 ∧ Bs = cel b BT [I64 c, .slice a ws.length cp] :: intsA a cp ws :: Ms) := by subst e; exact h
theorem badP_some {r : Flt} {c : Int} {ws : List Int} (e : r = some (c, ws)) {Ms : List Assn} {b : Nat} {a : Option Addr} {cp : Nat} : BadP r Ms (ptr b 0) (cel b BT [I64 c, .slice a ws.length cp] :: intsA a cp ws :: Ms) := by subst e; exact ⟨_, _, _, rfl, rfl⟩
theorem badP_none {r : Flt} (e : r = none) {Ms : List Assn} : BadP r Ms (.pointer none) Ms := by subst e; exact ⟨rfl, rfl⟩

set_option maxRecDepth 8000 in
set_option maxHeartbeats 400000 in
theorem within_spec (own : Int) (n : Nat) (hn : n ≤ 9223372036854775807) (F : FuncId) [TFunc Tryz.prog F] (caps : List Value) (Ms : List Assn) (Rr : Nat → Flt) (hl : ∀ i c ws, Rr i = some (c, ws) → ws.length ≤ 10)
    (hp : ∀ i, i < n → FnS Tryz.prog F ([I64 i] ++ caps) Ms (BadP (Rr i) Ms)) : FnS Tryz.prog 14 [I64 own, I64 n, .func (.func F) #[] caps.toArray] Ms (BadP (withinP own n Rr) Ms) := by
 refine fn_body Tryz.func14 rfl rfl rfl ?_
 intro W0 R
 simp only [List.zipIdx_cons, List.zipIdx_nil, List.map_cons, List.map_nil, Nat.zero_add, Nat.reduceAdd, List.cons_append, List.nil_append]
 refine g_seq ?_
 refine g_region ?_
 refine gl_v rfl (o_assign rfl) ?_
 refine gl_nil ?_
 refine ge_then ?_
 refine g_seq ?_
 refine g_seq ?_
 refine g_region ?_
 refine gl_v rfl (o_move rfl) ?_
 refine gl_v rfl (o_neq rfl rfl) ?_
 refine gl_nil ?_
 refine ge_then ?_
 refine g_cond rfl (fun hc1 => ?_) (fun hc1 => ?_)
 ·
  replace hc1 := hs_ hc1
  have hw : withinP own n Rr = some (own, []) := by unfold withinP; rw [if_neg (by omega)]
  refine g_seq ?_
  refine g_region ?_
  refine gl_v rfl (o_move rfl) ?_
  refine gl_v rfl (o_build rfl rfl) ?_
  refine gl_n rfl (o_boxA rfl) ?_
  rintro _ _ ⟨b13, rfl, rfl⟩
  refine gl_v rfl (o_assign rfl) ?_
  refine gl_nil ?_
  refine ge_then ?_
  refine g_ret ?_
  refine ge_then_ret ?_
  refine ret1 (.inl rfl) rfl rfl  (cel b13 BT [I64 own, .slice none 0 0] :: intsA none 0 [] :: Ms) (badP_some hw) (fun _ h => Sat.tail (r := Ms ++ R) (r' := intsA none 0 [] :: (Ms ++ R)) (fun _ h => own_nilI _ h) h)
 ·
  replace hc1 := hs_ hc1
  have hw : withinP own n Rr = fst Rr 0 n := by unfold withinP; rw [if_pos (by omega)]
  refine g_skip ?_
  refine ge_then ?_
  refine g_seq ?_
  refine g_seq ?_
  refine g_region ?_
  refine gl_v rfl (o_move rfl) ?_
  refine gl_v rfl (o_move rfl) ?_
  refine gl_nil ?_
  refine ge_then ?_
  refine g_block ?_
  refine g_loop (ι := Nat) (fun x => x ≤ n ∧ withinP own n Rr = fst Rr x (n - x)) (fun x => [(15, I64 x), (14, I64 n), (2, .func (.func F) #[] caps.toArray)]) (fun _ => Ms ++ R) (fun x => n - x) 0 (⟨Nat.zero_le _, hw⟩) (Keep.cons rfl (Keep.cons rfl (Keep.cons rfl (Keep.nil)))) (fun _ h => h) ?_
  clear hw
  rintro x ⟨hx, hw⟩
  replace hx : x ≤ n := hx
  replace hw : withinP own n Rr = fst Rr x (n - x) := hw
  refine g_seq ?_
  refine g_region ?_
  refine gl_v rfl (o_lss rfl rfl) ?_
  refine gl_nil ?_
  refine ge_then ?_
  refine g_seq ?_
  refine g_cond rfl (fun hc2 => ?_) (fun hc2 => ?_)
  ·
   replace hc2 := hs_ hc2
   refine g_skip ?_
   refine ge_then ?_
   refine g_seq ?_
   refine g_block ?_
   refine g_seq ?_
   refine g_region ?_
   refine gl_v rfl (o_move rfl) ?_
   refine gl_v rfl (o_assign rfl) ?_
   refine gl_nil ?_
   refine ge_then ?_
   refine g_seq ?_
   rcases hR : Rr x with _ | ⟨c, ws⟩
   ·
    refine g_region ?_
    refine gl_v rfl (o_move rfl) ?_
    refine gl_v rfl (o_move rfl) ?_
    refine gl_v rfl (o_move rfl) ?_
    refine gl_c rfl (o_callV rfl rfl (hp_none (hp x (by omega)) hR) part_app) ?_
    rintro _ R ⟨_, ⟨rfl, hm⟩, rfl⟩
    try simp only [List.cons_append, List.nil_append]
    obtain rfl := hm.symm
    refine gl_c rfl (o_call rfl (in_none x) pA) ?_
    rintro _ R ⟨_, ⟨rfl, rfl⟩, rfl⟩
    try simp only [List.cons_append, List.nil_append]
    refine gl_v rfl (o_assign rfl) ?_
    refine gl_nil ?_
    refine ge_then ?_
    refine g_seq ?_
    refine g_region ?_
    refine gl_v rfl (o_move rfl) ?_
    refine gl_v rfl (o_neqnn rfl rfl) ?_
    refine gl_nil ?_
    refine ge_then ?_
    refine g_cond_false rfl ?_
    refine g_skip ?_
    refine ge_block ?_
    refine ge_then ?_
    refine g_region ?_
    refine gl_v rfl (o_addR (((x + 1 : Nat) : Int)) (by rw [wr_i64 (by omega)]; omega) rfl rfl) ?_
    refine gl_v rfl (o_move rfl) ?_
    refine gl_nil ?_
    refine ge_round (x + 1) ⟨show x + 1 ≤ n by omega, by rw [hw, fst_at (by omega), hR]; rfl⟩ (show n - (x + 1) < n - x by omega) (Keep.cons rfl (Keep.cons rfl (Keep.cons rfl (Keep.nil)))) (fun _ h => h)
   ·
    refine g_region ?_
    refine gl_v rfl (o_move rfl) ?_
    refine gl_v rfl (o_move rfl) ?_
    refine gl_v rfl (o_move rfl) ?_
    refine gl_c rfl (o_callV rfl rfl (hp_some (hp x (by omega)) hR) part_app) ?_
    rintro _ R ⟨_, ⟨b, a, cp, rfl, rfl⟩, rfl⟩
    try simp only [List.cons_append, List.nil_append]
    refine gl_c rfl (o_call rfl (in_some x b a cp c ws (hl x c ws hR) (by omega)) pA) ?_
    rintro _ R ⟨_, ⟨a', cp', rfl, rfl⟩, rfl⟩
    try simp only [List.cons_append, List.nil_append]
    refine gl_v rfl (o_assign rfl) ?_
    refine gl_nil ?_
    refine ge_then ?_
    refine g_seq ?_
    refine g_region ?_
    refine gl_v rfl (o_move rfl) ?_
    refine gl_v rfl (o_neqPn rfl rfl) ?_
    refine gl_nil ?_
    refine ge_then ?_
    refine g_cond_true rfl ?_
    refine g_seq ?_
    refine g_region ?_
    refine gl_v rfl (o_move rfl) ?_
    refine gl_v rfl (o_assign rfl) ?_
    refine gl_nil ?_
    refine ge_then ?_
    refine g_ret ?_
    refine ge_block_ret ?_
    refine ge_then_ret ?_
    refine ge_then_ret ?_
    refine ge_block_ret ?_
    refine ge_then_ret ?_
    refine ret1 (.inl rfl) rfl rfl  (cel b BT [I64 c, .slice a' (((x + 1 : Nat) : Int) :: ws).length cp'] :: intsA a' cp' (((x + 1 : Nat) : Int) :: ws) :: Ms) (badP_some (by rw [hw, fst_at (by omega), hR]; rfl)) (fun _ h => h)
  ·
   replace hc2 := hs_ hc2
   have hz : withinP own n Rr = none := by rw [hw, show n - x = 0 by omega]; rfl
   refine g_exit ?_
   refine ge_then_exit ?_
   refine ge_then_exit ?_
   refine ge_block_exit ?_
   refine ge_then ?_
   refine g_seq ?_
   refine g_region ?_
   refine gl_v rfl (o_assign rfl) ?_
   refine gl_nil ?_
   refine ge_then ?_
   refine g_ret ?_
   refine ret1 (.inl rfl) rfl rfl  Ms (badP_none hz) (fun _ h => h)

end Go.Proofs.YtgmdlhlmffdbhaaGreatDoor.C
