/-
  Parse: printable, Print. Own work, printed in part by a program of its own.
-/
import Derived.Test.YtgmdlhlmffdbhaaGreatDoorParV
import Derived.Test.YtgmdlhlmffdbhaaGreatDoorParU
import Derived.Test.YtgmdlhlmffdbhaaGreatDoorParI
set_option linter.unusedSimpArgs false
set_option linter.unusedVariables false
set_option linter.unusedSectionVars false
namespace Go.Proofs.YtgmdlhlmffdbhaaGreatDoor.L
open Go.L Go.L.Lx Go.L.Pg Go.L.Pa
theorem joinB_S (ws : List By) : joinB ws [32] = joinS ws := by
  cases ws with
  | nil => rfl
  | cons w ws => unfold joinB joinS; rw [Lib.join_cons]; unfold Lib.joinTail; show _ = w ++ ws.flatMap (fun v => 32 :: v); rw [List.flatMap_def]; rfl
theorem Join_S (a : Option Addr) (c : Nat) (ws : List By) (h : wl ws ≤ wBig) : FnS Tryz.prog 18 [.slice a ws.length c, S [32]] [own (.slice a ws.length c) 9 1 ws.length (wsC ws)] (fun u Bs => u = S (joinS ws) ∧ Bs = [own (.slice a ws.length c) 9 1 ws.length (wsC ws)]) := by
  have h1 := len_wl ws; have h2 := joinS_len ws; unfold wBig at h
  rw [← joinB_S]
  exact Join_spec a c ws [32] (by omega) (by rw [joinB_S]; omega)
theorem Prog_ok {W : World} (hG : Gok W) (M : Assn) [HB W M] (l : By) (hl : l.length ≤ 9223372036854775807) (K : List Knd) (h : progP l = .ok K) : FnS Tryz.prog 7 [S l] [M] (fun u Bs => ∃ a c K', strip K' = K ∧ u = .tuple #[.agg #[.slice a K'.length c], .nilIface] ∧ Bs = [prgA a c K', M]) :=
  fns_in (Xs := []) (Program_spec l hl hG) fun u Bs hb => by
    unfold prgPost at hb; rw [h] at hb
    obtain ⟨a, c, K', h1, h2, rfl⟩ := hb
    exact ⟨[prgA a c K'], rfl, a, c, K', h1, h2, rfl⟩
theorem Prog_er {W : World} (hG : Gok W) (M : Assn) [HB W M] (l : By) (hl : l.length ≤ 9223372036854775807) (e : Err) (h : progP l = .error e) : FnS Tryz.prog 7 [S l] [M] (fun u Bs => ∃ b, u = .tuple #[.agg #[.slice none 0 0], errV b] ∧ Bs = [errM b e, M]) :=
  fns_in (Xs := []) (Program_spec l hl hG) fun u Bs hb => by
    unfold prgPost at hb; rw [h] at hb
    obtain ⟨b, h2, rfl⟩ := hb
    exact ⟨[errM b e], rfl, b, h2, rfl⟩
theorem lenK_of {k : Knd} (h : (kndWs k).length ≤ wBig) : LenK k := by
  unfold wBig at h; rw [kndWs_len] at h
  have h1 := len_flat casWs (fun c => by rw [casWs_len]; omega) k.cases
  have h2 := len_flat staWs (fun c => by rw [staWs_len]; omega) k.states
  refine ⟨by omega, by omega, fun s hs => ?_⟩
  have e : ∀ l : List Sta, s ∈ l → (staWs s).length ≤ (l.flatMap staWs).length := fun l => by
    induction l with
    | nil => intro h; cases h
    | cons x l ih => intro h; rw [List.flatMap_cons, List.length_append]; rcases List.mem_cons.1 h with rfl | h
                     · omega
                     · have := ih h; omega
  have h3 := e _ hs; rw [staWs_len] at h3
  have h4 := len_flat rowWs (fun c => by rw [rowWs_len]; omega) s.rows
  refine ⟨by omega, fun r hr => ?_⟩
  have e2 : ∀ l : List Row, r ∈ l → (rowWs r).length ≤ (l.flatMap rowWs).length := fun l => by
    induction l with
    | nil => intro h; cases h
    | cons x l ih => intro h; rw [List.flatMap_cons, List.length_append]; rcases List.mem_cons.1 h with rfl | h
                     · omega
                     · have := ih h; omega
  have h5 := e2 _ hr; rw [rowWs_len] at h5
  have h6 : r.effs.length ≤ (effsWs r.effs).length := by unfold effsWs; exact len_flat _ (fun e => by simp) r.effs
  omega
theorem sat_of {P : Program} {W0 : World} {A : Assn} {R : List Assn} {h : Hp} (s : Sat (A :: R) h) : ∃ h1 h2, Disj h1 h2 ∧ h = join h1 h2 ∧ A h1 := let ⟨h1, h2, d, e, a, _⟩ := s; ⟨h1, h2, d, e, a⟩
theorem knd_l {A B : Assn} {x : Knd} (f : ∀ h, A h → KndOk h x) : ∀ h, both A B h → KndOk h x := by
  rintro _ ⟨h1, h2, d, rfl, a, _⟩; exact (f _ a).imp (imp_l)
theorem knd_r {A B : Assn} {x : Knd} (f : ∀ h, B h → KndOk h x) : ∀ h, both A B h → KndOk h x := by
  rintro _ ⟨h1, h2, d, rfl, _, h3, h4, d2, rfl, a, _⟩; exact ((f _ a).imp (imp_l)).imp (imp_r d)
theorem prg_l {A B : Assn} {a : Option Addr} {c : Nat} {K : List Knd} (f : ∀ h, A h → PrgOk h a c K) : ∀ h, both A B h → PrgOk h a c K := by
  rintro _ ⟨h1, h2, d, rfl, x, _⟩; exact (f _ x).imp (imp_l)
theorem prg_r {A B : Assn} {a : Option Addr} {c : Nat} {K : List Knd} (f : ∀ h, B h → PrgOk h a c K) : ∀ h, both A B h → PrgOk h a c K := by
  rintro _ ⟨h1, h2, d, rfl, _, h3, h4, d2, rfl, x, _⟩; exact ((f _ x).imp (imp_l)).imp (imp_r d)
/-- a program of one kind -/
theorem prg_one {b : Nat} {e : TypeId} {x : Knd} {B : Assn} (f : ∀ h, B h → KndOk h x) : ∀ h, both (cel b e (kndC x)) B h → PrgOk h (some ⟨b, 0, none⟩) 1 [x] := by
  rintro g s
  have s2 : Sat (own (.slice (some ⟨b, 0, none⟩) 1 1) e 5 1 (kndC x) :: [B]) g := own1 rfl g s
  obtain ⟨h1, h2, d, rfl, hh, h3, h4, d2, rfl, a, _⟩ := s2
  exact ⟨(rdh_own hh).imp imp_l, by show 1 * 80 ≤ 140737488351232; omega, fun k hk => by rw [List.mem_singleton.1 hk]; exact ((f _ a).imp imp_l).imp (imp_r d)⟩
theorem wtr_new {p : Nat} {R : List Assn} : ∀ h, Sat (cel p 53 [.slice none 0 0] :: R) h → Sat (wtr p [] :: R) h :=
  ex_close (none, 0) trivial (fun _ s => Sat.tail (fun h s => own_nil0 h s) s)

theorem rd_app {Ms R : List Assn} {v : Value} {n : Nat} {xs : List Value} (hr : ∀ h, Sat Ms h → SlR h v n xs) : RdS v (Ms ++ R) n xs := ⟨fun s => by
  obtain ⟨h1, h2, d, e, a, _⟩ := Sat.split s
  rw [e]; exact (hr _ a).more⟩
theorem part_app {R : List Assn} : ∀ {Ms : List Assn}, Part Ms (Ms ++ R) R
  | [] => .nil
  | _ :: Ms => .cons .head (part_app (Ms := Ms))
theorem any_none {α : Type} {L : List α} {q : α → Bool} {x : Nat} {t : α} (h : L[x]? = some t) (h1 : (L.take x).any q = false) (h2 : q t = false) : (L.take (x + 1)).any q = false := by
  obtain ⟨hj, e⟩ := List.getElem?_eq_some_iff.1 h
  rw [List.take_succ_eq_append_getElem hj, e, List.any_append, h1]; simp [h2]
theorem bool_v {a b : Bool} (h : a = b) : Value.bool a = Value.bool b := by rw [h]

set_option maxRecDepth 8000 in
set_option maxHeartbeats 1000000 in
theorem IdxF_Knd (L : List Knd) (a : Option Addr) (c : Nat) (F : FuncId) [TFunc Tryz.prog F] (caps : List Value) (Ms : List Assn) (q : Knd → Bool) (hn : L.length ≤ 9223372036854775807) (hr : ∀ h, Sat Ms h → SlR h (.slice a L.length c) L.length (L.flatMap kndC))
    (hp : ∀ x ∈ L, FnS Tryz.prog F ([.agg (kndC x).toArray] ++ caps) Ms (fun u Bs => u = .bool (q x) ∧ Bs = Ms)) : FnS Tryz.prog 71 [.slice a L.length c, .func (.func F) #[] caps.toArray] Ms (fun u Bs => ∃ r : Int, (0 ≤ r ↔ L.any q = true) ∧ u = I64 r ∧ Bs = Ms) := by
 refine fn_body Tryz.func71 rfl rfl rfl ?_
 intro W0 R
 simp only [List.zipIdx_cons, List.zipIdx_nil, List.map_cons, List.map_nil, Nat.zero_add, Nat.reduceAdd, List.cons_append, List.nil_append]
 haveI := rd_app (R := R) hr
 refine g_seq ?_
 refine g_region ?_
 refine gl_v rfl (o_assign rfl) ?_
 refine gl_nil ?_
 refine ge_then ?_
 refine g_seq ?_
 refine g_seq ?_
 refine g_region ?_
 refine gl_v rfl (o_move rfl) ?_
 first | refine gl_v rfl (o_len rfl) ?_ | refine gl_v rfl (o_lenL rfl) ?_
 refine gl_v rfl (o_move rfl) ?_
 refine gl_nil ?_
 refine ge_then ?_
 refine g_block ?_
 refine g_loop (ι := Nat) (fun x => x ≤ L.length ∧ (L.take x).any q = false) (fun x => [(8, I64 x), (7, I64 L.length), (0, .slice a L.length c), (1, .func (.func F) #[] caps.toArray)]) (fun _ => Ms ++ R) (fun x => L.length - x) 0 (⟨Nat.zero_le _, rfl⟩) (Keep.cons rfl (Keep.cons rfl (Keep.cons rfl (Keep.cons rfl (Keep.nil))))) (fun _ h => h) ?_
 rintro x ⟨hx, hq⟩
 replace hx : x ≤ L.length := hx
 replace hq : (L.take x).any q = false := hq
 refine g_seq ?_
 refine g_region ?_
 refine gl_v rfl (o_lss rfl rfl) ?_
 refine gl_nil ?_
 refine ge_then ?_
 refine g_seq ?_
 refine g_cond rfl (fun hc1 => ?_) (fun hc1 => ?_)
 ·
  replace hc1 := hs_ hc1
  obtain ⟨t, ht⟩ : ∃ t, L[x]? = some t := ⟨_, List.getElem?_eq_getElem (show x < L.length by omega)⟩
  refine g_skip ?_
  refine ge_then ?_
  refine g_seq ?_
  refine g_block ?_
  refine g_seq ?_
  refine g_region ?_
  refine gl_v rfl (o_move rfl) ?_
  refine gl_v rfl (o_assign rfl) ?_
  refine gl_nil ?_
  refine ge_then ?_
  refine g_seq ?_
  refine g_region ?_
  refine gl_v rfl (o_move rfl) ?_
  refine gl_v rfl (o_move rfl) ?_
  refine gl_v rfl (o_move rfl) ?_
  refine gl_v rfl (o_idxS rfl rfl (show x < L.length by omega)) ?_
  refine gl_v rfl (o_loadSA rfl (flat_take kndC 5 kndC_len ht) rfl) ?_
  refine gl_c rfl (o_callV rfl rfl (hp t (List.mem_of_getElem? ht)) part_app) ?_
  rintro _ R ⟨_, ⟨rfl, hm⟩, rfl⟩
  try simp only [List.cons_append, List.nil_append]
  obtain rfl := hm.symm
  refine gl_nil ?_
  refine ge_then ?_
  refine g_cond rfl (fun hc2 => ?_) (fun hc2 => ?_)
  ·
   replace hc2 := hs_ hc2
   refine g_seq ?_
   refine g_region ?_
   refine gl_v rfl (o_move rfl) ?_
   refine gl_v rfl (o_assign rfl) ?_
   refine gl_nil ?_
   refine ge_then ?_
   refine g_ret ?_
   refine ge_block_ret ?_
   refine ge_then_ret ?_
   refine ge_then_ret ?_
   refine ge_block_ret ?_
   refine ge_then_ret ?_
   refine ret1 (.inl rfl) rfl rfl  Ms ⟨_, ⟨fun _ => List.any_eq_true.2 ⟨t, List.mem_of_getElem? ht, hc2⟩, fun _ => by omega⟩, rfl, rfl⟩ (fun _ h => h)
  ·
   replace hc2 := hs_ hc2
   refine g_skip ?_
   refine ge_block ?_
   refine ge_then ?_
   refine g_region ?_
   refine gl_v rfl (o_addR (((x + 1 : Nat) : Int)) (by rw [wr_i64 (by omega)]; omega) rfl rfl) ?_
   refine gl_v rfl (o_move rfl) ?_
   refine gl_nil ?_
   refine ge_round (x + 1) ⟨show x + 1 ≤ L.length by omega, any_none ht hq hc2⟩ (show L.length - (x + 1) < L.length - x by omega) (Keep.cons rfl (Keep.cons rfl (Keep.cons rfl (Keep.cons rfl (Keep.nil))))) (fun _ h => h)
 ·
  replace hc1 := hs_ hc1
  obtain rfl : x = L.length := by omega
  rw [List.take_length] at hq
  refine g_exit ?_
  refine ge_then_exit ?_
  refine ge_then_exit ?_
  refine ge_block_exit ?_
  refine ge_then ?_
  refine g_seq ?_
  refine g_region ?_
  refine gl_v rfl (o_assign rfl) ?_
  refine gl_nil ?_
  refine ge_then ?_
  refine g_ret ?_
  refine ret1 (.inl rfl) rfl rfl  Ms ⟨-1, ⟨fun h => absurd h (by decide), fun h => by rw [hq] at h; cases h⟩, rfl, rfl⟩ (fun _ h => h)

set_option maxRecDepth 8000 in
set_option maxHeartbeats 1000000 in
theorem ConF_Knd (L : List Knd) (a : Option Addr) (c : Nat) (F : FuncId) [TFunc Tryz.prog F] (caps : List Value) (Ms : List Assn) (q : Knd → Bool) (hn : L.length ≤ 9223372036854775807) (hr : ∀ h, Sat Ms h → SlR h (.slice a L.length c) L.length (L.flatMap kndC))
    (hp : ∀ x ∈ L, FnS Tryz.prog F ([.agg (kndC x).toArray] ++ caps) Ms (fun u Bs => u = .bool (q x) ∧ Bs = Ms)) : FnS Tryz.prog 41 [.slice a L.length c, .func (.func F) #[] caps.toArray] Ms (fun u Bs => u = .bool (L.any q) ∧ Bs = Ms) := by
 refine fn_body Tryz.func41 rfl rfl rfl ?_
 intro W0 R
 simp only [List.zipIdx_cons, List.zipIdx_nil, List.map_cons, List.map_nil, Nat.zero_add, Nat.reduceAdd, List.cons_append, List.nil_append]
 refine g_seq ?_
 refine g_region ?_
 refine gl_v rfl (o_assign rfl) ?_
 refine gl_nil ?_
 refine ge_then ?_
 refine g_seq ?_
 refine g_region ?_
 refine gl_v rfl (o_move rfl) ?_
 refine gl_v rfl (o_move rfl) ?_
 refine gl_c rfl (o_call rfl (IdxF_Knd L a c F caps Ms q hn hr hp) part_app) ?_
 rintro _ R ⟨_, ⟨r, hrr, rfl, hm⟩, rfl⟩
 try simp only [List.cons_append, List.nil_append]
 obtain rfl := hm.symm
 refine gl_v rfl (o_geq rfl rfl) ?_
 refine gl_v rfl (o_assign rfl) ?_
 refine gl_nil ?_
 refine ge_then ?_
 refine g_ret ?_
 refine ret1 (.inl rfl) rfl rfl  Ms ⟨bool_v (by rw [Bool.eq_iff_iff, decide_eq_true_eq]; exact hrr), rfl⟩ (fun _ h => h)

set_option maxRecDepth 8000 in
set_option maxHeartbeats 1000000 in
theorem prt1_er {W : World} (hG : Gok W) (M : Assn) [HB W M] (x : Knd) (hx : KndR x) (hM : ∀ h, M h → KndOk h x) (hs : wl (kndWs x) ≤ 1000000000) (e : Err) (hp : progP (joinS (kndWs x)) = .error e) : FnS Tryz.prog 53 [.agg (kndC x).toArray] [M] (fun u Bs => u = .bool (badP x) ∧ Bs = [M]) := by
 refine fn_body Tryz.func53 rfl rfl rfl ?_
 intro W0 R
 simp only [List.zipIdx_cons, List.zipIdx_nil, List.map_cons, List.map_nil, Nat.zero_add, Nat.reduceAdd, List.cons_append, List.nil_append]
 have hjl := joinS_len (kndWs x)
 refine g_seq ?_
 refine g_region ?_
 refine gl_n rfl (o_boxA rfl) ?_
 rintro _ _ ⟨b1, rfl, rfl⟩
 refine gl_v rfl (o_assign rfl) ?_
 refine gl_nil ?_
 refine ge_then ?_
 refine g_seq ?_
 refine g_region ?_
 refine gl_v rfl (o_build rfl rfl) ?_
 refine gl_n rfl (o_boxA rfl) ?_
 rintro _ _ ⟨b7, rfl, rfl⟩
 refine gl_v rfl (o_assign rfl) ?_
 refine gl_nil ?_
 refine ge_imp (fun h s => wtr_new h (Sel.to (A := cel b7 53 [.slice none 0 0]) sE s)) ?_
 refine ge_then ?_
 refine g_seq ?_
 refine g_region ?_
 refine gl_v rfl (o_move rfl) ?_
 first | refine gl_v rfl (o_loadSA rfl rfl rfl) ?_ | refine gl_v rfl (o_loadA rfl rfl rfl) ?_
 refine gl_c rfl (o_call rfl (kindW_spec hG M b7 x hx hM [] (by have := len_wl (kndWs x); unfold wBig; simp only [List.length_nil]; omega)) pA) ?_
 rintro _ R ⟨_, ⟨rfl, rfl⟩, rfl⟩
 try simp only [List.cons_append, List.nil_append]
 refine gl_nil ?_
 refine ge_then ?_
 refine g_seq ?_
 refine g_imp (fun h s => Sel.to (A := wtr b7 (kndWs x)) sE s) ?_
 refine g_open .head ?_
 rintro ⟨wa, wc⟩ -
 simp only [List.cons_append, List.nil_append]
 refine g_region ?_
 refine gl_v rfl (o_move rfl) ?_
 refine gl_v rfl (o_nil rfl) ?_
 first | refine gl_v rfl (o_fldS rfl) ?_ | refine gl_v rfl (o_fld rfl) ?_
 first | refine gl_v rfl (o_load rfl rfl) ?_ | refine gl_v rfl (o_loadS rfl rfl) ?_ | refine gl_v rfl (o_loadC rfl) ?_
 refine gl_c rfl (o_call rfl (Join_S wa wc (kndWs x) (by unfold wBig; omega)) pA) ?_
 rintro _ R ⟨_, ⟨rfl, rfl⟩, rfl⟩
 try simp only [List.cons_append, List.nil_append]
 refine gl_c rfl (o_call rfl (Prog_er hG M _ (by omega) e hp) pA) ?_
 rintro _ R ⟨_, ⟨be, rfl, rfl⟩, rfl⟩
 try simp only [List.cons_append, List.nil_append]
 refine gl_v rfl (o_move rfl) ?_
 refine gl_v rfl (o_extract rfl rfl) ?_
 refine gl_v rfl (o_extract rfl rfl) ?_
 refine gl_n rfl (o_alloc) ?_
 rintro _ _ ⟨b4, rfl, rfl⟩
 first | refine gl_u (o_storeSA rfl rfl rfl rfl (by simp; omega) (by simp)) ?_ | refine gl_u (o_storeA rfl rfl rfl rfl rfl) ?_
 refine gl_v rfl (o_assign rfl) ?_
 refine gl_nil ?_
 refine ge_then ?_
 refine g_seq ?_
 refine g_region ?_
 refine gl_v rfl (o_move rfl) ?_
 refine gl_v rfl (o_neqIn rfl) ?_
 refine gl_v rfl (o_move rfl) ?_
 refine gl_gF rfl rfl rfl rfl ?_
 refine gl_gF rfl rfl rfl rfl ?_
 refine gl_gF rfl rfl rfl rfl ?_
 refine gl_gF rfl rfl rfl rfl ?_
 refine gl_gF rfl rfl rfl rfl ?_
 refine gl_gF rfl rfl rfl rfl ?_
 refine gl_v rfl (o_pickT rfl rfl rfl) ?_
 refine gl_v rfl (o_assign rfl) ?_
 refine gl_nil ?_
 refine ge_then ?_
 refine g_ret ?_
 refine ret1 (.inl rfl) rfl rfl _ (⟨by unfold badP; rw [hp], rfl⟩) (tO)

set_option maxRecDepth 8000 in
set_option maxHeartbeats 1000000 in
theorem prt1_ok {W : World} (hG : Gok W) (M : Assn) [HB W M] (x : Knd) (hx : KndR x) (hM : ∀ h, M h → KndOk h x) (hs : wl (kndWs x) ≤ 1000000000) (K : List Knd) (hp : progP (joinS (kndWs x)) = .ok K) : FnS Tryz.prog 53 [.agg (kndC x).toArray] [M] (fun u Bs => u = .bool (badP x) ∧ Bs = [M]) := by
 refine fn_body Tryz.func53 rfl rfl rfl ?_
 intro W0 R
 simp only [List.zipIdx_cons, List.zipIdx_nil, List.map_cons, List.map_nil, Nat.zero_add, Nat.reduceAdd, List.cons_append, List.nil_append]
 have hjl := joinS_len (kndWs x)
 refine g_seq ?_
 refine g_region ?_
 refine gl_n rfl (o_boxA rfl) ?_
 rintro _ _ ⟨b1, rfl, rfl⟩
 refine gl_v rfl (o_assign rfl) ?_
 refine gl_nil ?_
 refine ge_then ?_
 refine g_seq ?_
 refine g_region ?_
 refine gl_v rfl (o_build rfl rfl) ?_
 refine gl_n rfl (o_boxA rfl) ?_
 rintro _ _ ⟨b7, rfl, rfl⟩
 refine gl_v rfl (o_assign rfl) ?_
 refine gl_nil ?_
 refine ge_imp (fun h s => wtr_new h (Sel.to (A := cel b7 53 [.slice none 0 0]) sE s)) ?_
 refine ge_then ?_
 refine g_seq ?_
 refine g_region ?_
 refine gl_v rfl (o_move rfl) ?_
 first | refine gl_v rfl (o_loadSA rfl rfl rfl) ?_ | refine gl_v rfl (o_loadA rfl rfl rfl) ?_
 refine gl_c rfl (o_call rfl (kindW_spec hG M b7 x hx hM [] (by have := len_wl (kndWs x); unfold wBig; simp only [List.length_nil]; omega)) pA) ?_
 rintro _ R ⟨_, ⟨rfl, rfl⟩, rfl⟩
 try simp only [List.cons_append, List.nil_append]
 refine gl_nil ?_
 refine ge_then ?_
 refine g_seq ?_
 refine g_imp (fun h s => Sel.to (A := wtr b7 (kndWs x)) sE s) ?_
 refine g_open .head ?_
 rintro ⟨wa, wc⟩ -
 simp only [List.cons_append, List.nil_append]
 refine g_region ?_
 refine gl_v rfl (o_move rfl) ?_
 refine gl_v rfl (o_nil rfl) ?_
 first | refine gl_v rfl (o_fldS rfl) ?_ | refine gl_v rfl (o_fld rfl) ?_
 first | refine gl_v rfl (o_load rfl rfl) ?_ | refine gl_v rfl (o_loadS rfl rfl) ?_ | refine gl_v rfl (o_loadC rfl) ?_
 refine gl_c rfl (o_call rfl (Join_S wa wc (kndWs x) (by unfold wBig; omega)) pA) ?_
 rintro _ R ⟨_, ⟨rfl, rfl⟩, rfl⟩
 try simp only [List.cons_append, List.nil_append]
 refine gl_c rfl (o_call rfl (Prog_ok hG M _ (by omega) K hp) pA) ?_
 rintro _ R ⟨_, ⟨pa, pc, K', hK, rfl, rfl⟩, rfl⟩
 try simp only [List.cons_append, List.nil_append]
 refine gl_v rfl (o_move rfl) ?_
 refine gl_v rfl (o_extract rfl rfl) ?_
 refine gl_v rfl (o_extract rfl rfl) ?_
 refine gl_n rfl (o_alloc) ?_
 rintro _ _ ⟨b4, rfl, rfl⟩
 first | refine gl_u (o_storeSA rfl rfl rfl rfl (by simp; omega) (by simp)) ?_ | refine gl_u (o_storeA rfl rfl rfl rfl rfl) ?_
 refine gl_v rfl (o_assign rfl) ?_
 refine gl_nil ?_
 refine ge_then ?_
 refine g_seq ?_
 refine g_region ?_
 refine gl_v rfl (o_move rfl) ?_
 refine gl_v rfl (o_neqnI rfl) ?_
 refine gl_v rfl (o_move rfl) ?_
 refine gl_gT rfl rfl rfl ?_
 first | refine gl_v rfl (o_loadSA rfl rfl rfl) ?_ | refine gl_v rfl (o_loadA rfl rfl rfl) ?_
 refine gl_gT rfl rfl rfl ?_
 first | refine gl_n rfl (o_buildS1 rfl rfl rfl) ?_ | refine gl_n rfl (o_buildS1A rfl rfl rfl rfl) ?_ | refine gl_n rfl (o_buildS rfl rfl rfl rfl) ?_
 rintro _ _ ⟨b24, rfl, rfl⟩
 refine gl_gT rfl rfl rfl ?_
 refine gl_v rfl (o_build rfl rfl) ?_
 refine gl_gT rfl rfl rfl ?_
 first | refine gl_v rfl (o_loadSA rfl rfl rfl) ?_ | refine gl_v rfl (o_loadA rfl rfl rfl) ?_
 refine gl_gT rfl rfl rfl ?_
 refine gl_imp (fun h s => sat_both.2 (Sat.tail (r := prgA pa pc K' :: M :: _) (r' := both (prgA pa pc K') M :: _) (fun h s => sat_both.2 s) (Part.to (m := [cel b24 57 (kndC x), prgA pa pc K', M]) pA s))) ?_
 refine gl_c rfl (o_call rfl (Same_spec (both (cel b24 57 (kndC x)) (both (prgA pa pc K') M)) [x] K' (some ⟨b24, 0, none⟩) pa 1 pc (prg_one (knd_r hM)) (prg_r (prg_l fun h a => a)) (by simp) (fun k hk => by rw [List.mem_singleton.1 hk]; exact lenK_of (by have := len_wl (kndWs x); unfold wBig; omega))) pA) ?_
 rintro _ R ⟨_, ⟨rfl, rfl⟩, rfl⟩
 try simp only [List.cons_append, List.nil_append]
 refine gl_imp (fun h s => Sat.tail (fun h s => sat_both.1 s) (sat_both.1 (Sel.to (A := (both (cel b24 57 (kndC x)) (both (prgA pa pc K') M))) sE s))) ?_
 refine gl_gT rfl rfl rfl ?_
 refine gl_v rfl (o_not rfl) ?_
 refine gl_v rfl (o_pickF rfl rfl rfl) ?_
 refine gl_v rfl (o_assign rfl) ?_
 refine gl_nil ?_
 refine ge_then ?_
 refine g_ret ?_
 refine ret1 (.inl rfl) rfl rfl _ (⟨by unfold badP; rw [hp, ← hK]; show _ = Value.bool (!sameL kndEq [x] (strip K')); rw [same_strip], rfl⟩) (tO)

theorem prt1_spec {W : World} (hG : Gok W) (M : Assn) [HB W M] (x : Knd) (hx : KndR x) (hM : ∀ h, M h → KndOk h x) (hs : wl (kndWs x) ≤ 1000000000) : FnS Tryz.prog 53 [.agg (kndC x).toArray] [M] (fun u Bs => u = .bool (badP x) ∧ Bs = [M]) := by
  cases hp : progP (joinS (kndWs x)) with
  | error e => exact prt1_er hG M x hx hM hs e hp
  | ok K => exact prt1_ok hG M x hx hM hs K hp

def Q1 (k : Knd) (j : Nat) : List Knd := prt0 k :: (k.cases.take j).map prtC
def Q2 (k : Knd) (j : Nat) : List Knd := prt0 k :: (k.cases.map prtC ++ (k.states.take j).flatMap partsS)
def Q3 (k : Knd) (j : Nat) (s : Sta) (i : Nat) : List Knd := Q2 k j ++ prtS s :: (s.rows.take i).flatMap partsR
def Q4 (k : Knd) (j : Nat) (s : Sta) (i : Nat) (r : Row) (m : Nat) : List Knd := Q3 k j s i ++ prtR r :: (r.effs.take m).map prtE
theorem take_map {α β : Type} {l : List α} {f : α → β} {j : Nat} {x : α} (h : l[j]? = some x) : (l.take (j + 1)).map f = (l.take j).map f ++ [f x] := by
  obtain ⟨hi, e⟩ := List.getElem?_eq_some_iff.1 h
  rw [List.take_succ_eq_append_getElem hi, e, List.map_append]; rfl
theorem Q1_succ {k : Knd} {j : Nat} {c : Cas} (h : k.cases[j]? = some c) : Q1 k (j + 1) = Q1 k j ++ [prtC c] := by unfold Q1; rw [take_map h]; rfl
theorem Q1_all (k : Knd) : Q1 k k.cases.length = Q2 k 0 := by unfold Q1 Q2; rw [List.take_length]; simp
theorem Q2_succ {k : Knd} {j : Nat} {s : Sta} (h : k.states[j]? = some s) : Q2 k (j + 1) = Q3 k j s s.rows.length := by unfold Q3 Q2; rw [flatT_succ h, List.take_length]; unfold partsS; simp
theorem Q2_all (k : Knd) : Q2 k k.states.length = allP k := by unfold Q2 allP; rw [List.take_length]
theorem Q3_0 (k : Knd) (j : Nat) (s : Sta) : Q3 k j s 0 = Q2 k j ++ [prtS s] := by unfold Q3; simp
theorem Q3_succ {k : Knd} {j : Nat} {s : Sta} {i : Nat} {r : Row} (h : s.rows[i]? = some r) : Q3 k j s (i + 1) = Q4 k j s i r r.effs.length := by unfold Q4 Q3; rw [flatT_succ h, List.take_length]; unfold partsR; simp
theorem Q4_0 (k : Knd) (j : Nat) (s : Sta) (i : Nat) (r : Row) : Q4 k j s i r 0 = Q3 k j s i ++ [prtR r] := by unfold Q4; simp
theorem Q4_succ {k : Knd} {j : Nat} {s : Sta} {i : Nat} {r : Row} {m : Nat} {e : Eff} (h : r.effs[m]? = some e) : Q4 k j s i r (m + 1) = Q4 k j s i r m ++ [prtE e] := by unfold Q4; rw [take_map h]; simp
theorem Q1_len (k : Knd) (j : Nat) : (Q1 k j).length ≤ (allP k).length := by unfold Q1 allP; simp; omega
theorem Q2_len (k : Knd) (j : Nat) : (Q2 k j).length ≤ (allP k).length := by
  have : ∀ (l : List Sta) (n : Nat), ((l.take n).flatMap partsS).length ≤ (l.flatMap partsS).length := fun l => by
    induction l with
    | nil => intro n; simp
    | cons x l ih => intro n; cases n with
      | zero => simp
      | succ n => rw [List.take_succ_cons, List.flatMap_cons, List.flatMap_cons, List.length_append, List.length_append]; have := ih n; omega
  unfold Q2 allP; simp only [List.length_cons, List.length_append]; have := this k.states j; omega
theorem Q3_len {k : Knd} {j : Nat} {s : Sta} (h : k.states[j]? = some s) (i : Nat) : (Q3 k j s i).length ≤ (allP k).length := by
  have h1 := Q2_len k (j + 1); rw [Q2_succ h] at h1
  have : ∀ (l : List Row) (n : Nat), ((l.take n).flatMap partsR).length ≤ (l.flatMap partsR).length := fun l => by
    induction l with
    | nil => intro n; simp
    | cons x l ih => intro n; cases n with
      | zero => simp
      | succ n => rw [List.take_succ_cons, List.flatMap_cons, List.flatMap_cons, List.length_append, List.length_append]; have := ih n; omega
  unfold Q3 at h1 ⊢; rw [List.take_length] at h1; simp only [List.length_cons, List.length_append] at h1 ⊢; have := this s.rows i; omega
theorem Q4_len {k : Knd} {j : Nat} {s : Sta} (h : k.states[j]? = some s) {i : Nat} {r : Row} (h2 : s.rows[i]? = some r) (m : Nat) : (Q4 k j s i r m).length ≤ (allP k).length := by
  have h1 := Q3_len h (i + 1); rw [Q3_succ h2] at h1
  unfold Q4 at h1 ⊢; rw [List.take_length] at h1; simp only [List.length_cons, List.length_append, List.length_map, List.length_take] at h1 ⊢; omega
theorem strip_snoc {L : List Knd} {P : List Knd} {x y : Knd} (h : strip L = P) (e : Knd.strip x = y) : strip (L ++ [x]) = P ++ [y] := by rw [strip_app, h, e]
theorem cont_parts {W : World} (hG : Gok W) (M : Assn) [HB W M] (k : Knd) (hx : KndR k) (hs : wl (kndWs k) ≤ 900000000) (L : List Knd) (pa : Option Addr) (pc : Nat) (hS : strip L = allP k) : FnS Tryz.prog 41 [.slice pa L.length pc, .func (.func 53) #[] #[]] [starL [own (.slice pa L.length pc) 57 5 L.length (L.flatMap kndC), kndsA L, M]] (fun u Bs => u = .bool (L.any badP) ∧ Bs = [starL [own (.slice pa L.length pc) 57 5 L.length (L.flatMap kndC), kndsA L, M]]) := by
  have hl : L.length ≤ 9223372036854775807 := by
    have h1 := len_wl (kndWs k); have h2 := allP_len k
    have h3 : L.length = (allP k).length := by rw [← hS]; simp [strip]
    omega
  refine ConF_Knd L pa pc 53 [] _ badP hl (fun h s => ?_) fun x hm => ?_
  · obtain ⟨h1, h2, d, rfl, ⟨h3, h4, d2, rfl, ho, _⟩, _⟩ := s
    exact ((SlO.rd ho).more).more
  · have hy := allP_ok hx (Knd.strip x) (by rw [← hS]; exact List.mem_map_of_mem hm)
    rw [kndWs_strip] at hy
    refine prt1_spec hG _ x hy.1.of_strip (fun h s => ?_) (by omega)
    obtain ⟨h3, h4, d2, rfl, _, h5, h6, d3, rfl, hk, _⟩ := s
    exact ((hk x hm).imp imp_l).imp (imp_r d2)
theorem strip_len {L P : List Knd} (h : strip L = P) : L.length = P.length := by rw [← h]; simp [strip]

set_option maxRecDepth 8000 in
set_option maxHeartbeats 4000000 in
theorem printable_spec {W : World} (hG : Gok W) (M : Assn) [HB W M] (k : Knd) (hx : KndR k) (hM : ∀ h, M h → KndOk h k) (hs : wl (kndWs k) ≤ 900000000) : FnS Tryz.prog 20 [.agg (kndC k).toArray] [M] (fun u Bs => u = .bool (printableP k) ∧ Bs = [M]) := by
 refine fn_body Tryz.func20 rfl rfl rfl ?_
 intro W0 R
 simp only [List.zipIdx_cons, List.zipIdx_nil, List.map_cons, List.map_nil, Nat.zero_add, Nat.reduceAdd, List.cons_append, List.nil_append]
 haveI iC : RdA (.slice k.ca k.cases.length k.cc) M k.cases.length (k.cases.flatMap casC) := ⟨fun a => (hM _ a).rdc.1⟩
 haveI iS : RdA (.slice k.sa k.states.length k.sc) M k.states.length (k.states.flatMap staC) := ⟨fun a => (hM _ a).rds.1⟩
 have hkl := len_wl (kndWs k)
 have hal := allP_len k
 obtain ⟨hb1, hb2, hb3⟩ := lenK_of (k := k) (by unfold wBig; omega)
 refine g_fact (p := ok63 k.name.length ∧ (∀ c ∈ k.cases, ok63 c.reason.length) ∧ ∀ s ∈ k.states, ok63 s.name.length ∧ ∀ r ∈ s.rows, ok63 r.tag.length ∧ ∀ e ∈ r.effs, EffOk e) (fun h s => ?_) ?_
 · obtain ⟨h1, h2, d, e, a⟩ := sat_of (P := Tryz.prog) (W0 := W) (Sel.to (A := M) sE s)
   have hk := hM _ a
   exact ⟨hk.name, hk.cases, fun s hs => ⟨(hk.states s hs).name, fun r hr => ⟨((hk.states s hs).rows r hr).tag, ((hk.states s hs).rows r hr).effs⟩⟩⟩
 rintro ⟨okn, okc, oks⟩
 refine g_seq ?_
 refine g_region ?_
 refine gl_n rfl (o_boxA rfl) ?_
 rintro _ _ ⟨b1, rfl, rfl⟩
 refine gl_v rfl (o_assign rfl) ?_
 refine gl_nil ?_
 refine ge_then ?_
 refine g_seq ?_
 refine g_region ?_
 first | refine gl_v rfl (o_fldS rfl) ?_ | refine gl_v rfl (o_fld rfl) ?_
 first | refine gl_v rfl (o_load rfl rfl) ?_ | refine gl_v rfl (o_loadS rfl rfl) ?_ | refine gl_v rfl (o_loadC rfl) ?_
 first | refine gl_v rfl (o_fldS rfl) ?_ | refine gl_v rfl (o_fld rfl) ?_
 first | refine gl_v rfl (o_load rfl rfl) ?_ | refine gl_v rfl (o_loadS rfl rfl) ?_ | refine gl_v rfl (o_loadC rfl) ?_
 first | refine gl_v rfl (o_fldS rfl) ?_ | refine gl_v rfl (o_fld rfl) ?_
 first | refine gl_v rfl (o_load rfl rfl) ?_ | refine gl_v rfl (o_loadS rfl rfl) ?_ | refine gl_v rfl (o_loadC rfl) ?_
 refine gl_v rfl (o_build rfl rfl) ?_
 first | refine gl_n rfl (o_buildS1 rfl rfl rfl) ?_ | refine gl_n rfl (o_buildS1A rfl rfl rfl rfl) ?_ | refine gl_n rfl (o_buildS rfl rfl rfl rfl) ?_
 rintro _ _ ⟨b19, rfl, rfl⟩
 refine gl_v rfl (o_assign rfl) ?_
 refine gl_nil ?_
 refine ge_imp (fun h s => knds_push (r := prt0 k) (R := []) h (pk_0 (b := 0) (e := 57) (e1 := 75) (e2 := 79) okn h (sat_nil (A := kndsA []) (fun _ h => by cases h) h (own1 (sz := 5) rfl h (Sel.to (A := cel b19 57 (kndC (prt0 k))) sE s))))) ?_
 refine ge_then ?_
 refine g_seq ?_
 refine g_seq ?_
 refine g_region ?_
 first | refine gl_v rfl (o_fldS rfl) ?_ | refine gl_v rfl (o_fld rfl) ?_
 first | refine gl_v rfl (o_load rfl rfl) ?_ | refine gl_v rfl (o_loadS rfl rfl) ?_ | refine gl_v rfl (o_loadC rfl) ?_
 first | refine gl_v rfl (o_len rfl) ?_ | refine gl_v rfl (o_lenL rfl) ?_
 refine gl_v rfl (o_move rfl) ?_
 refine gl_nil ?_
 refine ge_then ?_
 refine g_block ?_
 refine g_loop (ι := List Knd × Option Addr × Nat × Nat) (fun x => x.2.2.2 ≤ k.cases.length ∧ strip x.1 = Q1 k x.2.2.2) (fun x => [(23, I64 x.2.2.2), (22, I64 k.cases.length), (21, .slice k.ca k.cases.length k.cc), (3, .slice x.2.1 x.1.length x.2.2.1), (1, ptr b1 0)]) (fun x => cel b1 57 (kndC k) :: own (.slice x.2.1 x.1.length x.2.2.1) 57 5 x.1.length (x.1.flatMap kndC) :: kndsA x.1 :: M :: R) (fun x => k.cases.length - x.2.2.2) ([prt0 k], some ⟨b19, 0, none⟩, 1, 0) (⟨Nat.zero_le _, rfl⟩) (Keep.cons rfl (Keep.cons rfl (Keep.cons rfl (Keep.cons rfl (Keep.cons rfl (Keep.nil)))))) (tO) ?_
 rintro ⟨L, pa, pc, j⟩ ⟨hj, hS⟩
 replace hj : j ≤ k.cases.length := hj
 replace hS : strip L = Q1 k j := hS
 have hL := strip_len hS
 dsimp only
 refine g_seq ?_
 refine g_region ?_
 refine gl_v rfl (o_lss rfl rfl) ?_
 refine gl_nil ?_
 refine ge_then ?_
 refine g_seq ?_
 refine g_cond rfl (fun hc1 => ?_) (fun hc1 => ?_)
 ·
  replace hc1 := hs_ hc1
  obtain ⟨c, htc⟩ : ∃ t, k.cases[j]? = some t := ⟨_, List.getElem?_eq_getElem (show j < k.cases.length by omega)⟩
  have hql := Q1_len k j
  refine g_skip ?_
  refine ge_then ?_
  refine g_seq ?_
  refine g_block ?_
  refine g_seq ?_
  refine g_region ?_
  refine gl_v rfl (o_idxS rfl rfl (show j < k.cases.length by omega)) ?_
  refine gl_v rfl (o_loadSA rfl (flat_take casC 2 casC_len htc) rfl) ?_
  refine gl_n rfl (o_alloc) ?_
  rintro _ _ ⟨b5, rfl, rfl⟩
  first | refine gl_u (o_storeSA rfl rfl rfl rfl (by simp; omega) (by simp)) ?_ | refine gl_u (o_storeA rfl rfl rfl rfl rfl) ?_
  refine gl_nil ?_
  refine ge_then ?_
  refine g_region ?_
  refine gl_v rfl (o_move rfl) ?_
  first | refine gl_v rfl (o_loadSA rfl rfl rfl) ?_ | refine gl_v rfl (o_loadA rfl rfl rfl) ?_
  first | refine gl_n rfl (o_buildS1 rfl rfl rfl) ?_ | refine gl_n rfl (o_buildS1A rfl rfl rfl rfl) ?_ | refine gl_n rfl (o_buildS rfl rfl rfl rfl) ?_
  rintro _ _ ⟨b29, rfl, rfl⟩
  refine gl_v rfl (o_build rfl rfl) ?_
  first | refine gl_n rfl (o_buildS1 rfl rfl rfl) ?_ | refine gl_n rfl (o_buildS1A rfl rfl rfl rfl) ?_ | refine gl_n rfl (o_buildS rfl rfl rfl rfl) ?_
  rintro _ _ ⟨b31, rfl, rfl⟩
  refine gl_n rfl (o_append (news := kndC (kC b29 c)) rfl rfl pA rfl rfl rfl (by omega) (by unfold maxLen; omega)) ?_
  rintro _ _ ⟨a32, c32, rfl, rfl⟩
  rw [len_snoc L (kC b29 c), flat_snoc' kndC L (kC b29 c)]
  refine gl_v rfl (o_assign rfl) ?_
  refine gl_nil ?_
  refine ge_imp (fun g z => knds_push (r := kC b29 c) (R := L) g (pk_C (e := 75) (e2 := 79) (okc c (List.mem_of_getElem? htc)) g (Part.to (m := [cel b29 75 (casC c), kndsA L]) pA z))) ?_
  try simp only [List.append_eq, List.nil_append, List.cons_append]
  refine ge_block ?_
  refine ge_then ?_
  refine g_region ?_
  refine gl_v rfl (o_addR ((j + 1 : Nat) : Int) (by rw [wr_i64 (by omega)]; omega) rfl rfl) ?_
  refine gl_v rfl (o_move rfl) ?_
  refine gl_nil ?_
  refine ge_round (L ++ [kC b29 c], a32, c32, j + 1) ⟨show j + 1 ≤ k.cases.length by omega, by rw [Q1_succ htc]; exact strip_snoc hS rfl⟩ (by show k.cases.length - (j + 1) < k.cases.length - j; omega) (Keep.cons rfl (Keep.cons rfl (Keep.cons rfl (Keep.cons rfl (Keep.cons rfl (Keep.nil)))))) (tO)
 ·
  replace hc1 := hs_ hc1
  obtain rfl : j = k.cases.length := by omega
  rw [Q1_all] at hS
  refine g_exit ?_
  refine ge_then_exit ?_
  refine ge_then_exit ?_
  refine ge_block_exit ?_
  refine ge_then ?_
  refine g_seq ?_
  refine g_seq ?_
  refine g_region ?_
  first | refine gl_v rfl (o_fldS rfl) ?_ | refine gl_v rfl (o_fld rfl) ?_
  first | refine gl_v rfl (o_load rfl rfl) ?_ | refine gl_v rfl (o_loadS rfl rfl) ?_ | refine gl_v rfl (o_loadC rfl) ?_
  first | refine gl_v rfl (o_len rfl) ?_ | refine gl_v rfl (o_lenL rfl) ?_
  refine gl_v rfl (o_move rfl) ?_
  refine gl_nil ?_
  refine ge_then ?_
  refine g_block ?_
  refine g_loop (ι := List Knd × Option Addr × Nat × Nat) (fun x => x.2.2.2 ≤ k.states.length ∧ strip x.1 = Q2 k x.2.2.2) (fun x => [(37, I64 x.2.2.2), (36, I64 k.states.length), (35, .slice k.sa k.states.length k.sc), (3, .slice x.2.1 x.1.length x.2.2.1), (1, ptr b1 0)]) (fun x => cel b1 57 (kndC k) :: own (.slice x.2.1 x.1.length x.2.2.1) 57 5 x.1.length (x.1.flatMap kndC) :: kndsA x.1 :: M :: R) (fun x => k.states.length - x.2.2.2) (L, pa, pc, 0) (⟨Nat.zero_le _, hS⟩) (Keep.cons rfl (Keep.cons rfl (Keep.cons rfl (Keep.cons rfl (Keep.cons rfl (Keep.nil)))))) (tO) ?_
  rintro ⟨L, pa, pc, j⟩ ⟨hj, hS⟩
  replace hj : j ≤ k.states.length := hj
  replace hS : strip L = Q2 k j := hS
  have hL := strip_len hS
  dsimp only
  refine g_seq ?_
  refine g_region ?_
  refine gl_v rfl (o_lss rfl rfl) ?_
  refine gl_nil ?_
  refine ge_then ?_
  refine g_seq ?_
  refine g_cond rfl (fun hc2 => ?_) (fun hc2 => ?_)
  ·
   replace hc2 := hs_ hc2
   obtain ⟨s, hts⟩ : ∃ t, k.states[j]? = some t := ⟨_, List.getElem?_eq_getElem (show j < k.states.length by omega)⟩
   have hql := Q2_len k j
   have hsm := List.mem_of_getElem? hts
   haveI iR : RdA (.slice s.ra s.rows.length s.rc) M s.rows.length (s.rows.flatMap rowC) := ⟨fun a => ((hM _ a).states s hsm).rd.1⟩
   obtain ⟨hb4, hb5⟩ := hb3 s hsm
   obtain ⟨oksn, oksr⟩ := oks s hsm
   refine g_skip ?_
   refine ge_then ?_
   refine g_seq ?_
   refine g_block ?_
   refine g_seq ?_
   refine g_region ?_
   refine gl_v rfl (o_idxS rfl rfl (show j < k.states.length by omega)) ?_
   refine gl_v rfl (o_loadSA rfl (flat_take staC 2 staC_len hts) rfl) ?_
   refine gl_n rfl (o_alloc) ?_
   rintro _ _ ⟨b7, rfl, rfl⟩
   first | refine gl_u (o_storeSA rfl rfl rfl rfl (by simp; omega) (by simp)) ?_ | refine gl_u (o_storeA rfl rfl rfl rfl rfl) ?_
   refine gl_nil ?_
   refine ge_then ?_
   refine g_seq ?_
   refine g_region ?_
   refine gl_v rfl (o_move rfl) ?_
   first | refine gl_v rfl (o_fldS rfl) ?_ | refine gl_v rfl (o_fld rfl) ?_
   first | refine gl_v rfl (o_load rfl rfl) ?_ | refine gl_v rfl (o_loadS rfl rfl) ?_ | refine gl_v rfl (o_loadC rfl) ?_
   refine gl_v rfl (o_build rfl rfl) ?_
   first | refine gl_n rfl (o_buildS1 rfl rfl rfl) ?_ | refine gl_n rfl (o_buildS1A rfl rfl rfl rfl) ?_ | refine gl_n rfl (o_buildS rfl rfl rfl rfl) ?_
   rintro _ _ ⟨b45, rfl, rfl⟩
   refine gl_v rfl (o_build rfl rfl) ?_
   first | refine gl_n rfl (o_buildS1 rfl rfl rfl) ?_ | refine gl_n rfl (o_buildS1A rfl rfl rfl rfl) ?_ | refine gl_n rfl (o_buildS rfl rfl rfl rfl) ?_
   rintro _ _ ⟨b47, rfl, rfl⟩
   refine gl_n rfl (o_append (news := kndC (kS b45 ⟨s.name, none, 0, []⟩)) rfl rfl pA rfl rfl rfl (by omega) (by unfold maxLen; omega)) ?_
   rintro _ _ ⟨a48, c48, rfl, rfl⟩
   rw [len_snoc L (kS b45 ⟨s.name, none, 0, []⟩), flat_snoc' kndC L (kS b45 ⟨s.name, none, 0, []⟩)]
   refine gl_v rfl (o_assign rfl) ?_
   refine gl_nil ?_
   refine ge_imp (fun g z => knds_push (r := kS b45 ⟨s.name, none, 0, []⟩) (R := L) g (pk_S (e := 79) (e1 := 75) g (Sat.tail (fun g z => pk_s0 (e := 83) oksn g z) (Part.to (m := [cel b45 79 (staC ⟨s.name, none, 0, []⟩), kndsA L]) pA z)))) ?_
   try simp only [List.append_eq, List.nil_append, List.cons_append]
   refine ge_then ?_
   refine g_seq ?_
   refine g_region ?_
   first | refine gl_v rfl (o_fldS rfl) ?_ | refine gl_v rfl (o_fld rfl) ?_
   first | refine gl_v rfl (o_load rfl rfl) ?_ | refine gl_v rfl (o_loadS rfl rfl) ?_ | refine gl_v rfl (o_loadC rfl) ?_
   first | refine gl_v rfl (o_len rfl) ?_ | refine gl_v rfl (o_lenL rfl) ?_
   refine gl_v rfl (o_move rfl) ?_
   refine gl_nil ?_
   refine ge_then ?_
   refine g_block ?_
   refine g_loop (ι := List Knd × Option Addr × Nat × Nat) (fun x => x.2.2.2 ≤ s.rows.length ∧ strip x.1 = Q3 k j s x.2.2.2) (fun x => [(52, I64 x.2.2.2), (51, I64 s.rows.length), (50, .slice s.ra s.rows.length s.rc), (3, .slice x.2.1 x.1.length x.2.2.1), (37, I64 j), (36, I64 k.states.length), (35, .slice k.sa k.states.length k.sc), (1, ptr b1 0)]) (fun x => cel b1 57 (kndC k) :: own (.slice x.2.1 x.1.length x.2.2.1) 57 5 x.1.length (x.1.flatMap kndC) :: kndsA x.1 :: M :: R) (fun x => s.rows.length - x.2.2.2) (L ++ [kS b45 ⟨s.name, none, 0, []⟩], a48, c48, 0) (⟨Nat.zero_le _, by rw [Q3_0]; exact strip_snoc hS rfl⟩) (Keep.cons rfl (Keep.cons rfl (Keep.cons rfl (Keep.cons rfl (Keep.cons rfl (Keep.cons rfl (Keep.cons rfl (Keep.cons rfl (Keep.nil))))))))) (tO) ?_
   rintro ⟨L, pa, pc, i⟩ ⟨hi, hS⟩
   replace hi : i ≤ s.rows.length := hi
   replace hS : strip L = Q3 k j s i := hS
   have hL := strip_len hS
   dsimp only
   refine g_seq ?_
   refine g_region ?_
   refine gl_v rfl (o_lss rfl rfl) ?_
   refine gl_nil ?_
   refine ge_then ?_
   refine g_seq ?_
   refine g_cond rfl (fun hc3 => ?_) (fun hc3 => ?_)
   ·
    replace hc3 := hs_ hc3
    obtain ⟨r, htr⟩ : ∃ t, s.rows[i]? = some t := ⟨_, List.getElem?_eq_getElem (show i < s.rows.length by omega)⟩
    have hql := Q3_len hts i
    have hrm := List.mem_of_getElem? htr
    haveI iE : RdA (.slice r.ea r.effs.length r.ec) M r.effs.length (r.effs.flatMap effC) := ⟨fun a => (((hM _ a).states s hsm).rows r hrm).rd.1⟩
    have hb6 := hb5 r hrm
    obtain ⟨okrt, okre⟩ := oksr r hrm
    refine g_skip ?_
    refine ge_then ?_
    refine g_seq ?_
    refine g_block ?_
    refine g_seq ?_
    refine g_region ?_
    refine gl_v rfl (o_idxS rfl rfl (show i < s.rows.length by omega)) ?_
    refine gl_v rfl (o_loadSA rfl (flat_take rowC 4 rowC_len htr) rfl) ?_
    refine gl_n rfl (o_alloc) ?_
    rintro _ _ ⟨b9, rfl, rfl⟩
    first | refine gl_u (o_storeSA rfl rfl rfl rfl (by simp; omega) (by simp)) ?_ | refine gl_u (o_storeA rfl rfl rfl rfl rfl) ?_
    refine gl_nil ?_
    refine ge_then ?_
    refine g_seq ?_
    refine g_region ?_
    refine gl_v rfl (o_move rfl) ?_
    first | refine gl_v rfl (o_fldS rfl) ?_ | refine gl_v rfl (o_fld rfl) ?_
    first | refine gl_v rfl (o_load rfl rfl) ?_ | refine gl_v rfl (o_loadS rfl rfl) ?_ | refine gl_v rfl (o_loadC rfl) ?_
    first | refine gl_v rfl (o_fldS rfl) ?_ | refine gl_v rfl (o_fld rfl) ?_
    first | refine gl_v rfl (o_load rfl rfl) ?_ | refine gl_v rfl (o_loadS rfl rfl) ?_ | refine gl_v rfl (o_loadC rfl) ?_
    first | refine gl_v rfl (o_fldS rfl) ?_ | refine gl_v rfl (o_fld rfl) ?_
    first | refine gl_v rfl (o_load rfl rfl) ?_ | refine gl_v rfl (o_loadS rfl rfl) ?_ | refine gl_v rfl (o_loadC rfl) ?_
    refine gl_v rfl (o_build rfl rfl) ?_
    first | refine gl_n rfl (o_buildS1 rfl rfl rfl) ?_ | refine gl_n rfl (o_buildS1A rfl rfl rfl rfl) ?_ | refine gl_n rfl (o_buildS rfl rfl rfl rfl) ?_
    rintro _ _ ⟨b64, rfl, rfl⟩
    refine gl_v rfl (o_build rfl rfl) ?_
    first | refine gl_n rfl (o_buildS1 rfl rfl rfl) ?_ | refine gl_n rfl (o_buildS1A rfl rfl rfl rfl) ?_ | refine gl_n rfl (o_buildS rfl rfl rfl rfl) ?_
    rintro _ _ ⟨b66, rfl, rfl⟩
    refine gl_v rfl (o_build rfl rfl) ?_
    first | refine gl_n rfl (o_buildS1 rfl rfl rfl) ?_ | refine gl_n rfl (o_buildS1A rfl rfl rfl rfl) ?_ | refine gl_n rfl (o_buildS rfl rfl rfl rfl) ?_
    rintro _ _ ⟨b68, rfl, rfl⟩
    refine gl_n rfl (o_append (news := kndC (kS b66 (sR wA b64 ⟨r.tag, r.only, r.n, none, 0, []⟩))) rfl rfl pA rfl rfl rfl (by omega) (by unfold maxLen; omega)) ?_
    rintro _ _ ⟨a69, c69, rfl, rfl⟩
    rw [len_snoc L (kS b66 (sR wA b64 ⟨r.tag, r.only, r.n, none, 0, []⟩)), flat_snoc' kndC L (kS b66 (sR wA b64 ⟨r.tag, r.only, r.n, none, 0, []⟩))]
    refine gl_v rfl (o_assign rfl) ?_
    refine gl_nil ?_
    refine ge_imp (fun g z => knds_push (r := kS b66 (sR wA b64 ⟨r.tag, r.only, r.n, none, 0, []⟩)) (R := L) g (pk_S (e := 79) (e1 := 75) g (Sat.tail (fun g z => pk_sR (e := 83) ok63_1 g (Sat.tail (fun g z => pk_r0 (e := 38) okrt g z) z)) (Part.to (m := [cel b66 79 (staC (sR wA b64 ⟨r.tag, r.only, r.n, none, 0, []⟩)), cel b64 83 (rowC ⟨r.tag, r.only, r.n, none, 0, []⟩), kndsA L]) pA z)))) ?_
    try simp only [List.append_eq, List.nil_append, List.cons_append]
    refine ge_then ?_
    refine g_seq ?_
    refine g_region ?_
    first | refine gl_v rfl (o_fldS rfl) ?_ | refine gl_v rfl (o_fld rfl) ?_
    first | refine gl_v rfl (o_load rfl rfl) ?_ | refine gl_v rfl (o_loadS rfl rfl) ?_ | refine gl_v rfl (o_loadC rfl) ?_
    first | refine gl_v rfl (o_len rfl) ?_ | refine gl_v rfl (o_lenL rfl) ?_
    refine gl_v rfl (o_move rfl) ?_
    refine gl_nil ?_
    refine ge_then ?_
    refine g_block ?_
    refine g_loop (ι := List Knd × Option Addr × Nat × Nat) (fun x => x.2.2.2 ≤ r.effs.length ∧ strip x.1 = Q4 k j s i r x.2.2.2) (fun x => [(73, I64 x.2.2.2), (72, I64 r.effs.length), (71, .slice r.ea r.effs.length r.ec), (3, .slice x.2.1 x.1.length x.2.2.1), (52, I64 i), (51, I64 s.rows.length), (50, .slice s.ra s.rows.length s.rc), (37, I64 j), (36, I64 k.states.length), (35, .slice k.sa k.states.length k.sc), (1, ptr b1 0)]) (fun x => cel b1 57 (kndC k) :: own (.slice x.2.1 x.1.length x.2.2.1) 57 5 x.1.length (x.1.flatMap kndC) :: kndsA x.1 :: M :: R) (fun x => r.effs.length - x.2.2.2) (L ++ [kS b66 (sR wA b64 ⟨r.tag, r.only, r.n, none, 0, []⟩)], a69, c69, 0) (⟨Nat.zero_le _, by rw [Q4_0]; exact strip_snoc hS rfl⟩) (Keep.cons rfl (Keep.cons rfl (Keep.cons rfl (Keep.cons rfl (Keep.cons rfl (Keep.cons rfl (Keep.cons rfl (Keep.cons rfl (Keep.cons rfl (Keep.cons rfl (Keep.cons rfl (Keep.nil)))))))))))) (tO) ?_
    rintro ⟨L, pa, pc, m⟩ ⟨hm, hS⟩
    replace hm : m ≤ r.effs.length := hm
    replace hS : strip L = Q4 k j s i r m := hS
    have hL := strip_len hS
    dsimp only
    refine g_seq ?_
    refine g_region ?_
    refine gl_v rfl (o_lss rfl rfl) ?_
    refine gl_nil ?_
    refine ge_then ?_
    refine g_seq ?_
    refine g_cond rfl (fun hc4 => ?_) (fun hc4 => ?_)
    ·
     replace hc4 := hs_ hc4
     obtain ⟨e, hte⟩ : ∃ t, r.effs[m]? = some t := ⟨_, List.getElem?_eq_getElem (show m < r.effs.length by omega)⟩
     have hql := Q4_len hts htr m
     refine g_skip ?_
     refine ge_then ?_
     refine g_seq ?_
     refine g_block ?_
     refine g_seq ?_
     refine g_region ?_
     refine gl_v rfl (o_idxS rfl rfl (show m < r.effs.length by omega)) ?_
     refine gl_v rfl (o_loadSA rfl (flat_take effC 7 effC_len hte) rfl) ?_
     refine gl_n rfl (o_alloc) ?_
     rintro _ _ ⟨b11, rfl, rfl⟩
     first | refine gl_u (o_storeSA rfl rfl rfl rfl (by simp; omega) (by simp)) ?_ | refine gl_u (o_storeA rfl rfl rfl rfl rfl) ?_
     refine gl_nil ?_
     refine ge_then ?_
     refine g_region ?_
     refine gl_v rfl (o_move rfl) ?_
     first | refine gl_v rfl (o_loadSA rfl rfl rfl) ?_ | refine gl_v rfl (o_loadA rfl rfl rfl) ?_
     first | refine gl_n rfl (o_buildS1 rfl rfl rfl) ?_ | refine gl_n rfl (o_buildS1A rfl rfl rfl rfl) ?_ | refine gl_n rfl (o_buildS rfl rfl rfl rfl) ?_
     rintro _ _ ⟨b79, rfl, rfl⟩
     refine gl_v rfl (o_build rfl rfl) ?_
     first | refine gl_n rfl (o_buildS1 rfl rfl rfl) ?_ | refine gl_n rfl (o_buildS1A rfl rfl rfl rfl) ?_ | refine gl_n rfl (o_buildS rfl rfl rfl rfl) ?_
     rintro _ _ ⟨b81, rfl, rfl⟩
     refine gl_v rfl (o_build rfl rfl) ?_
     first | refine gl_n rfl (o_buildS1 rfl rfl rfl) ?_ | refine gl_n rfl (o_buildS1A rfl rfl rfl rfl) ?_ | refine gl_n rfl (o_buildS rfl rfl rfl rfl) ?_
     rintro _ _ ⟨b83, rfl, rfl⟩
     refine gl_v rfl (o_build rfl rfl) ?_
     first | refine gl_n rfl (o_buildS1 rfl rfl rfl) ?_ | refine gl_n rfl (o_buildS1A rfl rfl rfl rfl) ?_ | refine gl_n rfl (o_buildS rfl rfl rfl rfl) ?_
     rintro _ _ ⟨b85, rfl, rfl⟩
     refine gl_n rfl (o_append (news := kndC (kS b83 (sR wA b81 (rE b79 e)))) rfl rfl pA rfl rfl rfl (by omega) (by unfold maxLen; omega)) ?_
     rintro _ _ ⟨a86, c86, rfl, rfl⟩
     rw [len_snoc L (kS b83 (sR wA b81 (rE b79 e))), flat_snoc' kndC L (kS b83 (sR wA b81 (rE b79 e)))]
     refine gl_v rfl (o_assign rfl) ?_
     refine gl_nil ?_
     refine ge_imp (fun g z => knds_push (r := kS b83 (sR wA b81 (rE b79 e))) (R := L) g (pk_S (e := 79) (e1 := 75) g (Sat.tail (fun g z => pk_sR (e := 83) ok63_1 g (Sat.tail (fun g z => pk_rE (e := 38) (okre e (List.mem_of_getElem? hte)) g z) z)) (Part.to (m := [cel b83 79 (staC (sR wA b81 (rE b79 e))), cel b81 83 (rowC (rE b79 e)), cel b79 38 (effC e), kndsA L]) pA z)))) ?_
     try simp only [List.append_eq, List.nil_append, List.cons_append]
     refine ge_block ?_
     refine ge_then ?_
     refine g_region ?_
     refine gl_v rfl (o_addR ((m + 1 : Nat) : Int) (by rw [wr_i64 (by omega)]; omega) rfl rfl) ?_
     refine gl_v rfl (o_move rfl) ?_
     refine gl_nil ?_
     refine ge_round (L ++ [kS b83 (sR wA b81 (rE b79 e))], a86, c86, m + 1) ⟨show m + 1 ≤ r.effs.length by omega, by rw [Q4_succ hte]; exact strip_snoc hS rfl⟩ (by show r.effs.length - (m + 1) < r.effs.length - m; omega) (Keep.cons rfl (Keep.cons rfl (Keep.cons rfl (Keep.cons rfl (Keep.cons rfl (Keep.cons rfl (Keep.cons rfl (Keep.cons rfl (Keep.cons rfl (Keep.cons rfl (Keep.cons rfl (Keep.nil)))))))))))) (tO)
    ·
     replace hc4 := hs_ hc4
     obtain rfl : m = r.effs.length := by omega
     rw [← Q3_succ htr] at hS
     refine g_exit ?_
     refine ge_then_exit ?_
     refine ge_then_exit ?_
     refine ge_block_exit ?_
     refine ge_block ?_
     refine ge_then ?_
     refine g_region ?_
     refine gl_v rfl (o_addR ((i + 1 : Nat) : Int) (by rw [wr_i64 (by omega)]; omega) rfl rfl) ?_
     refine gl_v rfl (o_move rfl) ?_
     refine gl_nil ?_
     refine ge_round (L, pa, pc, i + 1) ⟨show i + 1 ≤ s.rows.length by omega, hS⟩ (by show s.rows.length - (i + 1) < s.rows.length - i; omega) (Keep.cons rfl (Keep.cons rfl (Keep.cons rfl (Keep.cons rfl (Keep.cons rfl (Keep.cons rfl (Keep.cons rfl (Keep.cons rfl (Keep.nil))))))))) (tO)
   ·
    replace hc3 := hs_ hc3
    obtain rfl : i = s.rows.length := by omega
    rw [← Q2_succ hts] at hS
    refine g_exit ?_
    refine ge_then_exit ?_
    refine ge_then_exit ?_
    refine ge_block_exit ?_
    refine ge_block ?_
    refine ge_then ?_
    refine g_region ?_
    refine gl_v rfl (o_addR ((j + 1 : Nat) : Int) (by rw [wr_i64 (by omega)]; omega) rfl rfl) ?_
    refine gl_v rfl (o_move rfl) ?_
    refine gl_nil ?_
    refine ge_round (L, pa, pc, j + 1) ⟨show j + 1 ≤ k.states.length by omega, hS⟩ (by show k.states.length - (j + 1) < k.states.length - j; omega) (Keep.cons rfl (Keep.cons rfl (Keep.cons rfl (Keep.cons rfl (Keep.cons rfl (Keep.nil)))))) (tO)
  ·
   replace hc2 := hs_ hc2
   obtain rfl : j = k.states.length := by omega
   rw [Q2_all] at hS
   refine g_exit ?_
   refine ge_then_exit ?_
   refine ge_then_exit ?_
   refine ge_block_exit ?_
   refine ge_then ?_
   refine g_seq ?_
   refine g_imp (fun h s => (Sat.flat (l := [own (.slice pa L.length pc) 57 5 L.length (L.flatMap kndC), kndsA L, M])).2 (Part.to pA s)) ?_
   refine g_region ?_
   refine gl_v rfl (o_move rfl) ?_
   refine gl_c rfl (o_call rfl (cont_parts hG M k hx hs L pa pc hS) pA) ?_
   rintro _ R ⟨_, ⟨rfl, rfl⟩, rfl⟩
   try simp only [List.cons_append, List.nil_append]
   refine gl_v rfl (o_not rfl) ?_
   refine gl_v rfl (o_assign rfl) ?_
   refine gl_nil ?_
   refine ge_imp (fun h s => Sat.flat.1 (Sel.to (A := starL [own (.slice pa L.length pc) 57 5 L.length (L.flatMap kndC), kndsA L, M]) sE s)) ?_
   simp only [List.cons_append, List.nil_append]
   refine ge_then ?_
   refine g_ret ?_
   refine ret1 (.inl rfl) rfl rfl _ (⟨by unfold printableP; rw [any_strip hS], rfl⟩) (tO)

theorem all_take {α : Type} {q : α → Bool} {L : List α} {x : Nat} {t : α} (h : L[x]? = some t) (h1 : (L.take x).all q = true) (h2 : q t = true) : (L.take (x + 1)).all q = true := by
  obtain ⟨hj, e⟩ := List.getElem?_eq_some_iff.1 h
  rw [List.take_succ_eq_append_getElem hj, e, List.all_append, h1]; simp [h2]
theorem all_no {α : Type} {q : α → Bool} {L : List α} {x : Nat} {t : α} (h : L[x]? = some t) (h2 : q t = false) : L.all q = false := by
  rw [List.all_eq_false]; exact ⟨t, List.mem_of_getElem? h, by rw [h2]; decide⟩
theorem prg_len {K : List Knd} (h : (prgWs K).length ≤ wBig) : K.length ≤ 9223372036854775807 := by
  unfold wBig at h
  have := len_flat kndWs (fun k => by rw [kndWs_len]; omega) K
  unfold prgWs at h; omega

set_option maxRecDepth 8000 in
set_option maxHeartbeats 2000000 in
theorem Print_long {W : World} (hG : Gok W) (M : Assn) [HB W M] (K : List Knd) (a : Option Addr) (c : Nat) (hP : ∀ h, M h → PrgOk h a c K) (hr : ∀ k ∈ K, KndR k) (hs : wl (prgWs K) ≤ 800000000) (e : Err) (hp : progP (joinS (prgWs K)) = .error e) (h5 : (e.1 : Int) = 5) : FnS Tryz.prog 6 [.agg #[.slice a K.length c]] [M] (fun u Bs => u = .tuple #[S (printP K).1, I64 (printP K).2] ∧ Bs = [M]) := by
 refine fn_body Tryz.func6 rfl rfl rfl ?_
 intro W0 R
 simp only [List.zipIdx_cons, List.zipIdx_nil, List.map_cons, List.map_nil, Nat.zero_add, Nat.reduceAdd, List.cons_append, List.nil_append]
 haveI iK : RdA (.slice a K.length c) M K.length (K.flatMap kndC) := ⟨fun a => (hP _ a).rd.1⟩
 have hkl := len_wl (prgWs K)
 have hjl := joinS_len (prgWs K)
 have hn := prg_len (K := K) (by unfold wBig; omega)
 refine g_seq ?_
 refine g_region ?_
 refine gl_n rfl (o_boxA rfl) ?_
 rintro _ _ ⟨b1, rfl, rfl⟩
 refine gl_v rfl (o_assign rfl) ?_
 refine gl_v rfl (o_assign rfl) ?_
 refine gl_nil ?_
 refine ge_then ?_
 refine g_seq ?_
 refine g_region ?_
 refine gl_v rfl (o_build rfl rfl) ?_
 refine gl_n rfl (o_boxA rfl) ?_
 rintro _ _ ⟨b13, rfl, rfl⟩
 refine gl_v rfl (o_assign rfl) ?_
 refine gl_nil ?_
 refine ge_imp (fun h s => wtr_new h (Sel.to (A := cel b13 53 [.slice none 0 0]) sE s)) ?_
 refine ge_then ?_
 refine g_seq ?_
 refine g_seq ?_
 refine g_region ?_
 first | refine gl_v rfl (o_fldS rfl) ?_ | refine gl_v rfl (o_fld rfl) ?_
 first | refine gl_v rfl (o_load rfl rfl) ?_ | refine gl_v rfl (o_loadS rfl rfl) ?_ | refine gl_v rfl (o_loadC rfl) ?_
 first | refine gl_v rfl (o_len rfl) ?_ | refine gl_v rfl (o_lenL rfl) ?_
 refine gl_v rfl (o_move rfl) ?_
 refine gl_nil ?_
 refine ge_then ?_
 refine g_block ?_
 refine g_loop (ι := Nat) (fun x => x ≤ K.length) (fun x => [(17, I64 x), (16, I64 K.length), (15, .slice a K.length c), (4, ptr b13 0), (1, ptr b1 0)]) (fun j => cel b1 24 [.slice a K.length c] :: wtr b13 (prgWs (K.take j)) :: M :: R) (fun x => K.length - x) 0 (Nat.zero_le _) (Keep.cons rfl (Keep.cons rfl (Keep.cons rfl (Keep.cons rfl (Keep.cons rfl (Keep.nil)))))) (by rw [List.take_zero]; exact (tO)) ?_
 rintro j hj
 replace hj : j ≤ K.length := hj
 refine g_seq ?_
 refine g_region ?_
 refine gl_v rfl (o_lss rfl rfl) ?_
 refine gl_nil ?_
 refine ge_then ?_
 refine g_seq ?_
 refine g_cond rfl (fun hc1 => ?_) (fun hc1 => ?_)
 ·
  replace hc1 := hs_ hc1
  obtain ⟨k, hk⟩ : ∃ t, K[j]? = some t := ⟨_, List.getElem?_eq_getElem (show j < K.length by omega)⟩
  have hle := take_le (f := kndWs) hk
  have hsu : prgWs (K.take (j + 1)) = prgWs (K.take j) ++ kndWs k := flatT_succ hk
  replace hle : (prgWs (K.take j)).length + (kndWs k).length ≤ (prgWs K).length := hle
  have hkm := List.mem_of_getElem? hk
  refine g_skip ?_
  refine ge_then ?_
  refine g_seq ?_
  refine g_block ?_
  refine g_seq ?_
  refine g_region ?_
  refine gl_v rfl (o_idxS rfl rfl (show j < K.length by omega)) ?_
  refine gl_v rfl (o_loadSA rfl (flat_take kndC 5 kndC_len hk) rfl) ?_
  refine gl_n rfl (o_alloc) ?_
  rintro _ _ ⟨b6, rfl, rfl⟩
  first | refine gl_u (o_storeSA rfl rfl rfl rfl (by simp; omega) (by simp)) ?_ | refine gl_u (o_storeA rfl rfl rfl rfl rfl) ?_
  refine gl_nil ?_
  refine ge_then ?_
  refine g_region ?_
  refine gl_v rfl (o_move rfl) ?_
  first | refine gl_v rfl (o_loadSA rfl rfl rfl) ?_ | refine gl_v rfl (o_loadA rfl rfl rfl) ?_
  refine gl_c rfl (o_call rfl (kindW_spec hG M b13 k (hr k hkm) (fun h a => (hP h a).kinds k hkm) (prgWs (K.take j)) (by unfold wBig; omega)) pA) ?_
  rintro _ R ⟨_, ⟨rfl, rfl⟩, rfl⟩
  try simp only [List.cons_append, List.nil_append]
  refine gl_nil ?_
  refine ge_block ?_
  refine ge_then ?_
  refine g_region ?_
  refine gl_v rfl (o_addR ((j + 1 : Nat) : Int) (by rw [wr_i64 (by omega)]; omega) rfl rfl) ?_
  refine gl_v rfl (o_move rfl) ?_
  refine gl_nil ?_
  refine ge_round (j + 1) (show j + 1 ≤ K.length by omega) (by show K.length - (j + 1) < K.length - j; omega) (Keep.cons rfl (Keep.cons rfl (Keep.cons rfl (Keep.cons rfl (Keep.cons rfl (Keep.nil)))))) (by rw [hsu]; exact (tO))
 ·
  replace hc1 := hs_ hc1
  obtain rfl : j = K.length := by omega
  rw [List.take_length]
  refine g_exit ?_
  refine ge_then_exit ?_
  refine ge_then_exit ?_
  refine ge_block_exit ?_
  refine ge_then ?_
  refine g_seq ?_
  refine g_imp (fun h s => Sel.to (A := wtr b13 (prgWs K)) sE s) ?_
  refine g_open .head ?_
  rintro ⟨wa, wc⟩ -
  simp only [List.cons_append, List.nil_append]
  refine g_region ?_
  refine gl_v rfl (o_move rfl) ?_
  refine gl_v rfl (o_nil rfl) ?_
  first | refine gl_v rfl (o_fldS rfl) ?_ | refine gl_v rfl (o_fld rfl) ?_
  first | refine gl_v rfl (o_load rfl rfl) ?_ | refine gl_v rfl (o_loadS rfl rfl) ?_ | refine gl_v rfl (o_loadC rfl) ?_
  refine gl_c rfl (o_call rfl (Join_S wa wc (prgWs K) (by unfold wBig; omega)) pA) ?_
  rintro _ R ⟨_, ⟨rfl, rfl⟩, rfl⟩
  try simp only [List.cons_append, List.nil_append]
  refine gl_v rfl (o_assign rfl) ?_
  refine gl_nil ?_
  refine ge_then ?_
  refine g_seq ?_
  refine g_region ?_
  refine gl_v rfl (o_move rfl) ?_
  refine gl_c rfl (o_call rfl (Prog_er hG M _ (by omega) e hp) pA) ?_
  rintro _ R ⟨_, ⟨be, rfl, rfl⟩, rfl⟩
  try simp only [List.cons_append, List.nil_append]
  refine gl_v rfl (o_move rfl) ?_
  refine gl_v rfl (o_extract rfl rfl) ?_
  refine gl_v rfl (o_extract rfl rfl) ?_
  refine gl_n rfl (o_alloc) ?_
  rintro _ _ ⟨b8, rfl, rfl⟩
  first | refine gl_u (o_storeSA rfl rfl rfl rfl (by simp; omega) (by simp)) ?_ | refine gl_u (o_storeA rfl rfl rfl rfl rfl) ?_
  refine gl_v rfl (o_assign rfl) ?_
  refine gl_nil ?_
  refine ge_then ?_
  refine g_seq ?_
  refine g_seq ?_
  refine g_region ?_
  refine gl_v rfl (o_move rfl) ?_
  refine gl_v rfl (o_iface Tryz.underlying29 rfl rfl) ?_
  refine gl_c rfl (o_call rfl (Is_flt be e 5) pA) ?_
  rintro _ R ⟨_, ⟨rfl, rfl⟩, rfl⟩
  try simp only [List.cons_append, List.nil_append]
  rw [show decide ((e.1 : Int) = 5) = true from decide_eq_true h5]
  refine gl_nil ?_
  refine ge_then ?_
  refine g_cond_true (rfl) ?_
  refine g_seq ?_
  refine g_seq ?_
  refine g_region ?_
  first | refine gl_v rfl (o_fldS rfl) ?_ | refine gl_v rfl (o_fld rfl) ?_
  first | refine gl_v rfl (o_load rfl rfl) ?_ | refine gl_v rfl (o_loadS rfl rfl) ?_ | refine gl_v rfl (o_loadC rfl) ?_
  first | refine gl_v rfl (o_len rfl) ?_ | refine gl_v rfl (o_lenL rfl) ?_
  refine gl_v rfl (o_move rfl) ?_
  refine gl_nil ?_
  refine ge_then ?_
  refine g_block ?_
  refine g_loop (ι := Nat) (fun x => x ≤ K.length ∧ (K.take x).all printableP = true) (fun x => [(41, I64 x), (40, I64 K.length), (39, .slice a K.length c), (1, ptr b1 0)]) (fun j => cel b1 24 [.slice a K.length c] :: M :: R) (fun x => K.length - x) 0 (⟨Nat.zero_le _, rfl⟩) (Keep.cons rfl (Keep.cons rfl (Keep.cons rfl (Keep.cons rfl (Keep.nil))))) (tO) ?_
  rintro j ⟨hj, hq⟩
  replace hj : j ≤ K.length := hj
  replace hq : (K.take j).all printableP = true := hq
  refine g_seq ?_
  refine g_region ?_
  refine gl_v rfl (o_lss rfl rfl) ?_
  refine gl_nil ?_
  refine ge_then ?_
  refine g_seq ?_
  refine g_cond rfl (fun hc2 => ?_) (fun hc2 => ?_)
  ·
   replace hc2 := hs_ hc2
   obtain ⟨k, hk⟩ : ∃ t, K[j]? = some t := ⟨_, List.getElem?_eq_getElem (show j < K.length by omega)⟩
   have hkm := List.mem_of_getElem? hk
   have hwk : wl (kndWs k) ≤ wl (prgWs K) := wl_mem kndWs hkm
   refine g_skip ?_
   refine ge_then ?_
   refine g_seq ?_
   refine g_block ?_
   refine g_seq ?_
   refine g_region ?_
   refine gl_v rfl (o_idxS rfl rfl (show j < K.length by omega)) ?_
   refine gl_v rfl (o_loadSA rfl (flat_take kndC 5 kndC_len hk) rfl) ?_
   refine gl_n rfl (o_alloc) ?_
   rintro _ _ ⟨b11, rfl, rfl⟩
   first | refine gl_u (o_storeSA rfl rfl rfl rfl (by simp; omega) (by simp)) ?_ | refine gl_u (o_storeA rfl rfl rfl rfl rfl) ?_
   refine gl_nil ?_
   refine ge_then ?_
   refine g_seq ?_
   refine g_region ?_
   first | refine gl_v rfl (o_loadSA rfl rfl rfl) ?_ | refine gl_v rfl (o_loadA rfl rfl rfl) ?_
   refine gl_c rfl (o_call rfl (printable_spec hG M k (hr k hkm) (fun h a => (hP h a).kinds k hkm) (by omega)) pA) ?_
   rintro _ R ⟨_, ⟨rfl, rfl⟩, rfl⟩
   try simp only [List.cons_append, List.nil_append]
   refine gl_v rfl (o_not rfl) ?_
   refine gl_nil ?_
   refine ge_then ?_
   refine g_cond rfl (fun hc3 => ?_) (fun hc3 => ?_)
   ·
    replace hc3 := hs_ hc3
    have hc9 : printableP k = false := by simpa using hc3
    refine g_seq ?_
    refine g_region ?_
    refine gl_v rfl (o_assign rfl) ?_
    refine gl_v rfl (o_assign rfl) ?_
    refine gl_nil ?_
    refine ge_then ?_
    refine g_ret ?_
    refine ge_block_ret ?_
    refine ge_then_ret ?_
    refine ge_then_ret ?_
    refine ge_block_ret ?_
    refine ge_then_ret ?_
    refine ge_then_ret ?_
    refine ret2 (.inl rfl) rfl rfl rfl _ (⟨by unfold printP; rw [hp]; show _ = Value.tuple #[S (if (e.1 : Int) = 5 then (if K.all printableP then ([], 5) else ([], 1)) else ([], 1)).1, I64 (if (e.1 : Int) = 5 then (if K.all printableP then ([], 5) else ([], 1)) else ([], 1)).2]; rw [if_pos h5, all_no hk hc9]; rfl, rfl⟩) (tO)
   ·
    replace hc3 := hs_ hc3
    have hc9 : printableP k = true := by simpa using hc3
    refine g_skip ?_
    refine ge_block ?_
    refine ge_then ?_
    refine g_region ?_
    refine gl_v rfl (o_addR ((j + 1 : Nat) : Int) (by rw [wr_i64 (by omega)]; omega) rfl rfl) ?_
    refine gl_v rfl (o_move rfl) ?_
    refine gl_nil ?_
    refine ge_round (j + 1) ⟨show j + 1 ≤ K.length by omega, all_take hk hq hc9⟩ (by show K.length - (j + 1) < K.length - j; omega) (Keep.cons rfl (Keep.cons rfl (Keep.cons rfl (Keep.cons rfl (Keep.nil))))) (tO)
  ·
   replace hc2 := hs_ hc2
   obtain rfl : j = K.length := by omega
   rw [List.take_length] at hq
   refine g_exit ?_
   refine ge_then_exit ?_
   refine ge_then_exit ?_
   refine ge_block_exit ?_
   refine ge_then ?_
   refine g_seq ?_
   refine g_region ?_
   refine gl_v rfl (o_assign rfl) ?_
   refine gl_v rfl (o_assign rfl) ?_
   refine gl_nil ?_
   refine ge_then ?_
   refine g_ret ?_
   refine ge_then_ret ?_
   refine ret2 (.inl rfl) rfl rfl rfl _ (⟨by unfold printP; rw [hp]; show _ = Value.tuple #[S (if (e.1 : Int) = 5 then (if K.all printableP then ([], 5) else ([], 1)) else ([], 1)).1, I64 (if (e.1 : Int) = 5 then (if K.all printableP then ([], 5) else ([], 1)) else ([], 1)).2]; rw [if_pos h5, hq]; rfl, rfl⟩) (tO)

set_option maxRecDepth 8000 in
set_option maxHeartbeats 2000000 in
theorem Print_err {W : World} (hG : Gok W) (M : Assn) [HB W M] (K : List Knd) (a : Option Addr) (c : Nat) (hP : ∀ h, M h → PrgOk h a c K) (hr : ∀ k ∈ K, KndR k) (hs : wl (prgWs K) ≤ 800000000) (e : Err) (hp : progP (joinS (prgWs K)) = .error e) (h5 : ¬ (e.1 : Int) = 5) : FnS Tryz.prog 6 [.agg #[.slice a K.length c]] [M] (fun u Bs => u = .tuple #[S (printP K).1, I64 (printP K).2] ∧ Bs = [M]) := by
 refine fn_body Tryz.func6 rfl rfl rfl ?_
 intro W0 R
 simp only [List.zipIdx_cons, List.zipIdx_nil, List.map_cons, List.map_nil, Nat.zero_add, Nat.reduceAdd, List.cons_append, List.nil_append]
 haveI iK : RdA (.slice a K.length c) M K.length (K.flatMap kndC) := ⟨fun a => (hP _ a).rd.1⟩
 have hkl := len_wl (prgWs K)
 have hjl := joinS_len (prgWs K)
 have hn := prg_len (K := K) (by unfold wBig; omega)
 refine g_seq ?_
 refine g_region ?_
 refine gl_n rfl (o_boxA rfl) ?_
 rintro _ _ ⟨b1, rfl, rfl⟩
 refine gl_v rfl (o_assign rfl) ?_
 refine gl_v rfl (o_assign rfl) ?_
 refine gl_nil ?_
 refine ge_then ?_
 refine g_seq ?_
 refine g_region ?_
 refine gl_v rfl (o_build rfl rfl) ?_
 refine gl_n rfl (o_boxA rfl) ?_
 rintro _ _ ⟨b13, rfl, rfl⟩
 refine gl_v rfl (o_assign rfl) ?_
 refine gl_nil ?_
 refine ge_imp (fun h s => wtr_new h (Sel.to (A := cel b13 53 [.slice none 0 0]) sE s)) ?_
 refine ge_then ?_
 refine g_seq ?_
 refine g_seq ?_
 refine g_region ?_
 first | refine gl_v rfl (o_fldS rfl) ?_ | refine gl_v rfl (o_fld rfl) ?_
 first | refine gl_v rfl (o_load rfl rfl) ?_ | refine gl_v rfl (o_loadS rfl rfl) ?_ | refine gl_v rfl (o_loadC rfl) ?_
 first | refine gl_v rfl (o_len rfl) ?_ | refine gl_v rfl (o_lenL rfl) ?_
 refine gl_v rfl (o_move rfl) ?_
 refine gl_nil ?_
 refine ge_then ?_
 refine g_block ?_
 refine g_loop (ι := Nat) (fun x => x ≤ K.length) (fun x => [(17, I64 x), (16, I64 K.length), (15, .slice a K.length c), (4, ptr b13 0), (1, ptr b1 0)]) (fun j => cel b1 24 [.slice a K.length c] :: wtr b13 (prgWs (K.take j)) :: M :: R) (fun x => K.length - x) 0 (Nat.zero_le _) (Keep.cons rfl (Keep.cons rfl (Keep.cons rfl (Keep.cons rfl (Keep.cons rfl (Keep.nil)))))) (by rw [List.take_zero]; exact (tO)) ?_
 rintro j hj
 replace hj : j ≤ K.length := hj
 refine g_seq ?_
 refine g_region ?_
 refine gl_v rfl (o_lss rfl rfl) ?_
 refine gl_nil ?_
 refine ge_then ?_
 refine g_seq ?_
 refine g_cond rfl (fun hc1 => ?_) (fun hc1 => ?_)
 ·
  replace hc1 := hs_ hc1
  obtain ⟨k, hk⟩ : ∃ t, K[j]? = some t := ⟨_, List.getElem?_eq_getElem (show j < K.length by omega)⟩
  have hle := take_le (f := kndWs) hk
  have hsu : prgWs (K.take (j + 1)) = prgWs (K.take j) ++ kndWs k := flatT_succ hk
  replace hle : (prgWs (K.take j)).length + (kndWs k).length ≤ (prgWs K).length := hle
  have hkm := List.mem_of_getElem? hk
  refine g_skip ?_
  refine ge_then ?_
  refine g_seq ?_
  refine g_block ?_
  refine g_seq ?_
  refine g_region ?_
  refine gl_v rfl (o_idxS rfl rfl (show j < K.length by omega)) ?_
  refine gl_v rfl (o_loadSA rfl (flat_take kndC 5 kndC_len hk) rfl) ?_
  refine gl_n rfl (o_alloc) ?_
  rintro _ _ ⟨b6, rfl, rfl⟩
  first | refine gl_u (o_storeSA rfl rfl rfl rfl (by simp; omega) (by simp)) ?_ | refine gl_u (o_storeA rfl rfl rfl rfl rfl) ?_
  refine gl_nil ?_
  refine ge_then ?_
  refine g_region ?_
  refine gl_v rfl (o_move rfl) ?_
  first | refine gl_v rfl (o_loadSA rfl rfl rfl) ?_ | refine gl_v rfl (o_loadA rfl rfl rfl) ?_
  refine gl_c rfl (o_call rfl (kindW_spec hG M b13 k (hr k hkm) (fun h a => (hP h a).kinds k hkm) (prgWs (K.take j)) (by unfold wBig; omega)) pA) ?_
  rintro _ R ⟨_, ⟨rfl, rfl⟩, rfl⟩
  try simp only [List.cons_append, List.nil_append]
  refine gl_nil ?_
  refine ge_block ?_
  refine ge_then ?_
  refine g_region ?_
  refine gl_v rfl (o_addR ((j + 1 : Nat) : Int) (by rw [wr_i64 (by omega)]; omega) rfl rfl) ?_
  refine gl_v rfl (o_move rfl) ?_
  refine gl_nil ?_
  refine ge_round (j + 1) (show j + 1 ≤ K.length by omega) (by show K.length - (j + 1) < K.length - j; omega) (Keep.cons rfl (Keep.cons rfl (Keep.cons rfl (Keep.cons rfl (Keep.cons rfl (Keep.nil)))))) (by rw [hsu]; exact (tO))
 ·
  replace hc1 := hs_ hc1
  obtain rfl : j = K.length := by omega
  rw [List.take_length]
  refine g_exit ?_
  refine ge_then_exit ?_
  refine ge_then_exit ?_
  refine ge_block_exit ?_
  refine ge_then ?_
  refine g_seq ?_
  refine g_imp (fun h s => Sel.to (A := wtr b13 (prgWs K)) sE s) ?_
  refine g_open .head ?_
  rintro ⟨wa, wc⟩ -
  simp only [List.cons_append, List.nil_append]
  refine g_region ?_
  refine gl_v rfl (o_move rfl) ?_
  refine gl_v rfl (o_nil rfl) ?_
  first | refine gl_v rfl (o_fldS rfl) ?_ | refine gl_v rfl (o_fld rfl) ?_
  first | refine gl_v rfl (o_load rfl rfl) ?_ | refine gl_v rfl (o_loadS rfl rfl) ?_ | refine gl_v rfl (o_loadC rfl) ?_
  refine gl_c rfl (o_call rfl (Join_S wa wc (prgWs K) (by unfold wBig; omega)) pA) ?_
  rintro _ R ⟨_, ⟨rfl, rfl⟩, rfl⟩
  try simp only [List.cons_append, List.nil_append]
  refine gl_v rfl (o_assign rfl) ?_
  refine gl_nil ?_
  refine ge_then ?_
  refine g_seq ?_
  refine g_region ?_
  refine gl_v rfl (o_move rfl) ?_
  refine gl_c rfl (o_call rfl (Prog_er hG M _ (by omega) e hp) pA) ?_
  rintro _ R ⟨_, ⟨be, rfl, rfl⟩, rfl⟩
  try simp only [List.cons_append, List.nil_append]
  refine gl_v rfl (o_move rfl) ?_
  refine gl_v rfl (o_extract rfl rfl) ?_
  refine gl_v rfl (o_extract rfl rfl) ?_
  refine gl_n rfl (o_alloc) ?_
  rintro _ _ ⟨b8, rfl, rfl⟩
  first | refine gl_u (o_storeSA rfl rfl rfl rfl (by simp; omega) (by simp)) ?_ | refine gl_u (o_storeA rfl rfl rfl rfl rfl) ?_
  refine gl_v rfl (o_assign rfl) ?_
  refine gl_nil ?_
  refine ge_then ?_
  refine g_seq ?_
  refine g_seq ?_
  refine g_region ?_
  refine gl_v rfl (o_move rfl) ?_
  refine gl_v rfl (o_iface Tryz.underlying29 rfl rfl) ?_
  refine gl_c rfl (o_call rfl (Is_flt be e 5) pA) ?_
  rintro _ R ⟨_, ⟨rfl, rfl⟩, rfl⟩
  try simp only [List.cons_append, List.nil_append]
  rw [show decide ((e.1 : Int) = 5) = false from decide_eq_false h5]
  refine gl_nil ?_
  refine ge_then ?_
  refine g_cond_false (rfl) ?_
  refine g_skip ?_
  refine ge_then ?_
  refine g_seq ?_
  refine g_seq ?_
  refine g_region ?_
  refine gl_v rfl (o_move rfl) ?_
  refine gl_v rfl (o_neqIn rfl) ?_
  refine gl_v rfl (o_move rfl) ?_
  refine gl_gF rfl rfl rfl rfl ?_
  refine gl_gF rfl rfl rfl rfl ?_
  refine gl_gF rfl rfl rfl rfl ?_
  refine gl_gF rfl rfl rfl rfl ?_
  refine gl_v rfl (o_pickT rfl rfl rfl) ?_
  refine gl_nil ?_
  refine ge_then ?_
  refine g_cond_true rfl ?_
  refine g_seq ?_
  refine g_region ?_
  refine gl_v rfl (o_assign rfl) ?_
  refine gl_v rfl (o_assign rfl) ?_
  refine gl_nil ?_
  refine ge_then ?_
  refine g_ret ?_
  refine ge_then_ret ?_
  refine ret2 (.inl rfl) rfl rfl rfl _ (⟨by unfold printP; rw [hp]; show _ = Value.tuple #[S (if (e.1 : Int) = 5 then (if K.all printableP then ([], 5) else ([], 1)) else ([], 1)).1, I64 (if (e.1 : Int) = 5 then (if K.all printableP then ([], 5) else ([], 1)) else ([], 1)).2]; rw [if_neg h5], rfl⟩) (tO)

set_option maxRecDepth 8000 in
set_option maxHeartbeats 2000000 in
theorem Print_ok {W : World} (hG : Gok W) (M : Assn) [HB W M] (K : List Knd) (a : Option Addr) (c : Nat) (hP : ∀ h, M h → PrgOk h a c K) (hr : ∀ k ∈ K, KndR k) (hs : wl (prgWs K) ≤ 800000000) (Kx : List Knd) (hp : progP (joinS (prgWs K)) = .ok Kx) : FnS Tryz.prog 6 [.agg #[.slice a K.length c]] [M] (fun u Bs => u = .tuple #[S (printP K).1, I64 (printP K).2] ∧ Bs = [M]) := by
 refine fn_body Tryz.func6 rfl rfl rfl ?_
 intro W0 R
 simp only [List.zipIdx_cons, List.zipIdx_nil, List.map_cons, List.map_nil, Nat.zero_add, Nat.reduceAdd, List.cons_append, List.nil_append]
 haveI iK : RdA (.slice a K.length c) M K.length (K.flatMap kndC) := ⟨fun a => (hP _ a).rd.1⟩
 have hkl := len_wl (prgWs K)
 have hjl := joinS_len (prgWs K)
 have hn := prg_len (K := K) (by unfold wBig; omega)
 refine g_seq ?_
 refine g_region ?_
 refine gl_n rfl (o_boxA rfl) ?_
 rintro _ _ ⟨b1, rfl, rfl⟩
 refine gl_v rfl (o_assign rfl) ?_
 refine gl_v rfl (o_assign rfl) ?_
 refine gl_nil ?_
 refine ge_then ?_
 refine g_seq ?_
 refine g_region ?_
 refine gl_v rfl (o_build rfl rfl) ?_
 refine gl_n rfl (o_boxA rfl) ?_
 rintro _ _ ⟨b13, rfl, rfl⟩
 refine gl_v rfl (o_assign rfl) ?_
 refine gl_nil ?_
 refine ge_imp (fun h s => wtr_new h (Sel.to (A := cel b13 53 [.slice none 0 0]) sE s)) ?_
 refine ge_then ?_
 refine g_seq ?_
 refine g_seq ?_
 refine g_region ?_
 first | refine gl_v rfl (o_fldS rfl) ?_ | refine gl_v rfl (o_fld rfl) ?_
 first | refine gl_v rfl (o_load rfl rfl) ?_ | refine gl_v rfl (o_loadS rfl rfl) ?_ | refine gl_v rfl (o_loadC rfl) ?_
 first | refine gl_v rfl (o_len rfl) ?_ | refine gl_v rfl (o_lenL rfl) ?_
 refine gl_v rfl (o_move rfl) ?_
 refine gl_nil ?_
 refine ge_then ?_
 refine g_block ?_
 refine g_loop (ι := Nat) (fun x => x ≤ K.length) (fun x => [(17, I64 x), (16, I64 K.length), (15, .slice a K.length c), (4, ptr b13 0), (1, ptr b1 0)]) (fun j => cel b1 24 [.slice a K.length c] :: wtr b13 (prgWs (K.take j)) :: M :: R) (fun x => K.length - x) 0 (Nat.zero_le _) (Keep.cons rfl (Keep.cons rfl (Keep.cons rfl (Keep.cons rfl (Keep.cons rfl (Keep.nil)))))) (by rw [List.take_zero]; exact (tO)) ?_
 rintro j hj
 replace hj : j ≤ K.length := hj
 refine g_seq ?_
 refine g_region ?_
 refine gl_v rfl (o_lss rfl rfl) ?_
 refine gl_nil ?_
 refine ge_then ?_
 refine g_seq ?_
 refine g_cond rfl (fun hc1 => ?_) (fun hc1 => ?_)
 ·
  replace hc1 := hs_ hc1
  obtain ⟨k, hk⟩ : ∃ t, K[j]? = some t := ⟨_, List.getElem?_eq_getElem (show j < K.length by omega)⟩
  have hle := take_le (f := kndWs) hk
  have hsu : prgWs (K.take (j + 1)) = prgWs (K.take j) ++ kndWs k := flatT_succ hk
  replace hle : (prgWs (K.take j)).length + (kndWs k).length ≤ (prgWs K).length := hle
  have hkm := List.mem_of_getElem? hk
  refine g_skip ?_
  refine ge_then ?_
  refine g_seq ?_
  refine g_block ?_
  refine g_seq ?_
  refine g_region ?_
  refine gl_v rfl (o_idxS rfl rfl (show j < K.length by omega)) ?_
  refine gl_v rfl (o_loadSA rfl (flat_take kndC 5 kndC_len hk) rfl) ?_
  refine gl_n rfl (o_alloc) ?_
  rintro _ _ ⟨b6, rfl, rfl⟩
  first | refine gl_u (o_storeSA rfl rfl rfl rfl (by simp; omega) (by simp)) ?_ | refine gl_u (o_storeA rfl rfl rfl rfl rfl) ?_
  refine gl_nil ?_
  refine ge_then ?_
  refine g_region ?_
  refine gl_v rfl (o_move rfl) ?_
  first | refine gl_v rfl (o_loadSA rfl rfl rfl) ?_ | refine gl_v rfl (o_loadA rfl rfl rfl) ?_
  refine gl_c rfl (o_call rfl (kindW_spec hG M b13 k (hr k hkm) (fun h a => (hP h a).kinds k hkm) (prgWs (K.take j)) (by unfold wBig; omega)) pA) ?_
  rintro _ R ⟨_, ⟨rfl, rfl⟩, rfl⟩
  try simp only [List.cons_append, List.nil_append]
  refine gl_nil ?_
  refine ge_block ?_
  refine ge_then ?_
  refine g_region ?_
  refine gl_v rfl (o_addR ((j + 1 : Nat) : Int) (by rw [wr_i64 (by omega)]; omega) rfl rfl) ?_
  refine gl_v rfl (o_move rfl) ?_
  refine gl_nil ?_
  refine ge_round (j + 1) (show j + 1 ≤ K.length by omega) (by show K.length - (j + 1) < K.length - j; omega) (Keep.cons rfl (Keep.cons rfl (Keep.cons rfl (Keep.cons rfl (Keep.cons rfl (Keep.nil)))))) (by rw [hsu]; exact (tO))
 ·
  replace hc1 := hs_ hc1
  obtain rfl : j = K.length := by omega
  rw [List.take_length]
  refine g_exit ?_
  refine ge_then_exit ?_
  refine ge_then_exit ?_
  refine ge_block_exit ?_
  refine ge_then ?_
  refine g_seq ?_
  refine g_imp (fun h s => Sel.to (A := wtr b13 (prgWs K)) sE s) ?_
  refine g_open .head ?_
  rintro ⟨wa, wc⟩ -
  simp only [List.cons_append, List.nil_append]
  refine g_region ?_
  refine gl_v rfl (o_move rfl) ?_
  refine gl_v rfl (o_nil rfl) ?_
  first | refine gl_v rfl (o_fldS rfl) ?_ | refine gl_v rfl (o_fld rfl) ?_
  first | refine gl_v rfl (o_load rfl rfl) ?_ | refine gl_v rfl (o_loadS rfl rfl) ?_ | refine gl_v rfl (o_loadC rfl) ?_
  refine gl_c rfl (o_call rfl (Join_S wa wc (prgWs K) (by unfold wBig; omega)) pA) ?_
  rintro _ R ⟨_, ⟨rfl, rfl⟩, rfl⟩
  try simp only [List.cons_append, List.nil_append]
  refine gl_v rfl (o_assign rfl) ?_
  refine gl_nil ?_
  refine ge_then ?_
  refine g_seq ?_
  refine g_region ?_
  refine gl_v rfl (o_move rfl) ?_
  refine gl_c rfl (o_call rfl (Prog_ok hG M _ (by omega) Kx hp) pA) ?_
  rintro _ R ⟨_, ⟨pa, pc, K', hK, rfl, rfl⟩, rfl⟩
  try simp only [List.cons_append, List.nil_append]
  refine gl_v rfl (o_move rfl) ?_
  refine gl_v rfl (o_extract rfl rfl) ?_
  refine gl_v rfl (o_extract rfl rfl) ?_
  refine gl_n rfl (o_alloc) ?_
  rintro _ _ ⟨b8, rfl, rfl⟩
  first | refine gl_u (o_storeSA rfl rfl rfl rfl (by simp; omega) (by simp)) ?_ | refine gl_u (o_storeA rfl rfl rfl rfl rfl) ?_
  refine gl_v rfl (o_assign rfl) ?_
  refine gl_nil ?_
  refine ge_then ?_
  refine g_seq ?_
  refine g_seq ?_
  refine g_region ?_
  refine gl_v rfl (o_move rfl) ?_
  refine gl_v rfl (o_iface Tryz.underlying29 rfl rfl) ?_
  refine gl_c rfl (o_call rfl (Is_nil 5) pA) ?_
  rintro _ R ⟨_, ⟨rfl, rfl⟩, rfl⟩
  try simp only [List.cons_append, List.nil_append]
  refine gl_nil ?_
  refine ge_then ?_
  refine g_cond_false (rfl) ?_
  refine g_skip ?_
  refine ge_then ?_
  refine g_seq ?_
  refine g_seq ?_
  refine g_region ?_
  refine gl_v rfl (o_move rfl) ?_
  refine gl_v rfl (o_neqnI rfl) ?_
  refine gl_v rfl (o_move rfl) ?_
  refine gl_gT rfl rfl rfl ?_
  first | refine gl_v rfl (o_loadSA rfl rfl rfl) ?_ | refine gl_v rfl (o_loadA rfl rfl rfl) ?_
  refine gl_gT rfl rfl rfl ?_
  first | refine gl_v rfl (o_loadSA rfl rfl rfl) ?_ | refine gl_v rfl (o_loadA rfl rfl rfl) ?_
  refine gl_gT rfl rfl rfl ?_
  refine gl_imp (fun h s => sat_both.2 (Part.to (m := [prgA pa pc K', M]) pA s)) ?_
  refine gl_c rfl (o_call rfl (Same_spec (both (prgA pa pc K') M) K K' a pa c pc (prg_r hP) (prg_l fun h a => a) hn (fun k hk => lenK_of (by have h1 : wl (kndWs k) ≤ wl (prgWs K) := wl_mem kndWs hk; have := len_wl (kndWs k); unfold wBig; omega))) pA) ?_
  rintro _ R ⟨_, ⟨rfl, rfl⟩, rfl⟩
  try simp only [List.cons_append, List.nil_append]
  refine gl_imp (fun h s => sat_both.1 (Sel.to (A := (both (prgA pa pc K') M)) sE s)) ?_
  have hpk : printP K = if sameL kndEq K K' then (joinS (prgWs K), 0) else ([], 1) := by unfold printP; rw [hp, ← hK]; show (if sameL kndEq K (strip K') then _ else _) = _; rw [same_strip]
  refine gl_gT rfl rfl rfl ?_
  refine gl_v rfl (o_not rfl) ?_
  refine gl_v rfl (o_pickF rfl rfl rfl) ?_
  refine gl_nil ?_
  refine ge_then ?_
  refine g_cond rfl (fun hc2 => ?_) (fun hc2 => ?_)
  ·
   replace hc2 := hs_ hc2
   have hcS := hc2
   refine g_seq ?_
   refine g_region ?_
   refine gl_v rfl (o_assign rfl) ?_
   refine gl_v rfl (o_assign rfl) ?_
   refine gl_nil ?_
   refine ge_then ?_
   refine g_ret ?_
   refine ge_then_ret ?_
   refine ret2 (.inl rfl) rfl rfl rfl _ (⟨by rw [hpk, if_neg (by simpa using hcS)], rfl⟩) (tO)
  ·
   replace hc2 := hs_ hc2
   have hcS := hc2
   refine g_skip ?_
   refine ge_then ?_
   refine g_seq ?_
   refine g_region ?_
   refine gl_v rfl (o_move rfl) ?_
   refine gl_v rfl (o_assign rfl) ?_
   refine gl_v rfl (o_assign rfl) ?_
   refine gl_nil ?_
   refine ge_then ?_
   refine g_ret ?_
   refine ret2 (.inl rfl) rfl rfl rfl _ (⟨by rw [hpk, if_pos (by simpa using hcS)], rfl⟩) (tO)

theorem Print_spec {W : World} (hG : Gok W) (M : Assn) [HB W M] (K : List Knd) (a : Option Addr) (c : Nat) (hP : ∀ h, M h → PrgOk h a c K) (hr : ∀ k ∈ K, KndR k) (hs : wl (prgWs K) ≤ 800000000) : FnS Tryz.prog 6 [.agg #[.slice a K.length c]] [M] (fun u Bs => u = .tuple #[S (printP K).1, I64 (printP K).2] ∧ Bs = [M]) := by
  cases hp : progP (joinS (prgWs K)) with
  | error e =>
    by_cases h5 : (e.1 : Int) = 5
    · exact Print_long hG M K a c hP hr hs e hp h5
    · exact Print_err hG M K a c hP hr hs e hp h5
  | ok Kx => exact Print_ok hG M K a c hP hr hs Kx hp

end Go.Proofs.YtgmdlhlmffdbhaaGreatDoor.L
