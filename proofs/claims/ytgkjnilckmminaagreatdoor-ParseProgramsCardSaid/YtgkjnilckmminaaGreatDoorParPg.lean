/-
  Parse: the reference's Program, ParsePrograms. Own work, printed in part by a program of its own.
-/
import Derived.Test.YtgkjnilckmminaaGreatDoorParRf
import Derived.Test.YtgkjnilckmminaaGreatDoorParH
import Derived.Test.YtgkjnilckmminaaGreatDoorLexR
set_option linter.unusedSimpArgs false
set_option linter.unusedVariables false
set_option linter.unusedSectionVars false
namespace Go.Proofs.YtgkjnilckmminaaGreatDoor.L
open Go.L Go.L.Lx Go.L.Pg Go.L.Pa
abbrev m63x : Nat := 9223372036854775806
theorem lens_of {h : Hp} {a : Option Addr} {c : Nat} {K : List Knd} (p : PrgOk h a c K) : K.length ≤ 9223372036854775806 ∧ ∀ k ∈ K, k.cases.length ≤ 9223372036854775806 ∧ k.states.length ≤ 9223372036854775806 ∧ ∀ s ∈ k.states, s.rows.length ≤ 9223372036854775806 ∧ ∀ r ∈ s.rows, r.effs.length ≤ 9223372036854775806 := by
  have h0 := p.len; unfold ok63 at h0
  refine ⟨by omega, fun k hk => ?_⟩
  have h1 := (p.kinds k hk).lenc; have h2 := (p.kinds k hk).lens; unfold ok63 at h1 h2
  refine ⟨by omega, by omega, fun s hs => ?_⟩
  have h3 := ((p.kinds k hk).states s hs).len; unfold ok63 at h3
  refine ⟨by omega, fun r hr => ?_⟩
  have h4 := (((p.kinds k hk).states s hs).rows r hr).len; unfold ok63 at h4
  omega
theorem lenK_ofX {K : List Knd} (h : ∀ k ∈ K, k.cases.length ≤ 9223372036854775806 ∧ k.states.length ≤ 9223372036854775806 ∧ ∀ s ∈ k.states, s.rows.length ≤ 9223372036854775806 ∧ ∀ r ∈ s.rows, r.effs.length ≤ 9223372036854775806) : ∀ k ∈ K, LenK k := fun k hk => by
  obtain ⟨h1, h2, h3⟩ := h k hk
  refine ⟨by omega, by omega, fun s hs => ?_⟩
  obtain ⟨h4, h5⟩ := h3 s hs
  exact ⟨by omega, fun r hr => by have := h5 r hr; omega⟩
theorem base_prgP {W : World} {a : Option Addr} {c : Nat} {K : List Knd} (p : PrgOk (hpOf W) a c K) : ∀ h, base W h → PrgOk h a c K := fun h hb => p.imp fun b o e => by
  have hlt : b < W.heap.size := by
    rcases Nat.lt_or_ge b W.heap.size with x | x
    · exact x
    · rw [show hpOf W b = W.heap[b]? from rfl, Array.getElem?_eq_none x] at e; cases e
  rw [hb b hlt]; exact e
theorem fact_ofX {A : Assn} {As R : List Assn} {p : Prop} (s : Sel A As R) (f : ∀ h, A h → p) : ∀ h, Sat As h → p := fun h x => by
  obtain ⟨h1, h2, d, e, a, _⟩ := s.to x; exact f _ a
theorem ret_pg {W0 : World} {n : Nat} {sl : Slots} {As R : List Assn} {post : Value → List Assn → Prop} {b : Nat} {x y z : Value} {u : Obj → List Assn} [j : Owns b As (.cells [x].toArray 25 (0, 0)) u] (h1 : slk sl 2 = some (ptr b 0)) (h2 : slk sl 3 = some y) (h3 : slk sl 4 = some z) (Bs : List Assn) (hp : post (.tuple #[.agg #[x], y, z]) Bs) (hA : ∀ h, Sat As h → Sat (Bs ++ R) h) :
    GE W0 n sl As (FQ Tryz.prog W0 Tryz.f12 post R .ret) :=
  fq_ret (.inl rfl) (fun a w hs s => by
    have r1 := agg_res (P := Tryz.prog) (T := 25) (b := b) (off := 0) (vs := [x]) s rfl rfl
    have hr : Tryz.f12.results = #[.cell 2 25, .tmp 3, .tmp 4] := rfl
    simp [results, hr, hs.val _ _ h1, hs.val _ _ h2, hs.val _ _ h3, asAddr, r1]) Bs hp hA
theorem lex_code (p : Nat) (l : By) : ∀ e, lex p l = .error e → e.1 ≠ 0 := by
  refine lex_ind (P := fun p l => ∀ e, lex p l = .error e → e.1 ≠ 0) ?_ ?_ ?_ ?_ ?_ p l
  · intro p e h; rw [lex_nil] at h; cases h
  · intro p c r hb ih e h; rw [lex_blank hb] at h; exact ih e h
  · intro p c r h35 ih e h; rw [lex_hash h35] at h; exact ih e h
  · intro p c r x hb h35 ht e h
    rw [lex_err hb h35 ht] at h; cases h
    rw [tok_eq] at ht
    split at ht
    · split at ht
      · cases ht; simp
      · cases ht
    · split at ht
      · split at ht
        · cases ht; simp
        · cases ht
      · split at ht
        · cases ht
        · cases ht; simp
  · intro p c r t hb h35 ht ih e h
    rw [lex_ok' hb h35 ht] at h
    exact ih e (pre_err h)
theorem lexAll_cd {l : By} {e : Err} (h : lexAll l = .error e) : e.1 ≠ 0 := by
  unfold lexAll at h
  split at h
  · cases h; decide
  · exact lex_code 0 l e h
theorem prg_cd {l : By} {e : Err} (h : progP l = .error e) : e.1 ≠ 0 := by
  unfold progP at h
  cases hx : lexAll l with
  | error x => rw [hx] at h; replace h : (Except.error x : Except Err (List Knd)) = .error e := h; cases h; exact lexAll_cd hx
  | ok T =>
    rw [hx] at h
    replace h : progT l.length T = .error e := h
    unfold progT at h
    cases hk : kndsP (T.length + 1) [] T with
    | ok K' r => rw [hk] at h; cases h
    | bad r =>
      rw [hk] at h
      replace h : (Except.error (fltOf l.length r) : Except Err (List Knd)) = .error e := h
      cases h
      cases r with
      | nil => show 31 ≠ 0; decide
      | cons t r => show 30 ≠ 0; decide
def prgR (l : By) : Value → List Assn → Prop := fun u Bs => match progP l with
  | .ok K => ∃ a c K', strip K' = K ∧ u = .tuple #[.agg #[.slice a K'.length c], I64 0, I64 (-1)] ∧ Bs = [prgA a c K']
  | .error e => u = .tuple #[.agg #[.slice none 0 0], I64 e.1, I64 e.2] ∧ Bs = []

set_option maxRecDepth 8000 in
set_option maxHeartbeats 1000000 in
theorem ProgR_lexerr (l : By) (hl : l.length ≤ 140737488355328) (e : Err) (hlx : lexAll l = .error e) : FnS Tryz.prog 12 [S l] [] (prgR l) := by
 refine fn_body Tryz.func12 rfl rfl rfl ?_
 intro W0 R
 simp only [List.zipIdx_cons, List.zipIdx_nil, List.map_cons, List.map_nil, Nat.zero_add, Nat.reduceAdd, List.cons_append, List.nil_append]
 have he := lexAll_cd hlx
 refine g_seq ?_
 refine g_region ?_
 refine gl_n rfl (o_alloc) ?_
 rintro _ _ ⟨b2, rfl, rfl⟩
 refine gl_v rfl (o_assign rfl) ?_
 refine gl_v rfl (o_assign rfl) ?_
 refine gl_nil ?_
 refine ge_then ?_
 refine g_seq ?_
 refine g_region ?_
 refine gl_v rfl (o_move rfl) ?_
 refine gl_c rfl (o_call rfl (RAll_spec l (by omega)) pA) ?_
 rintro _ R ⟨_, ⟨la, lc, rfl, rfl⟩, rfl⟩
 try simp only [List.cons_append, List.nil_append]
 rw [hlx]; simp only [rv, ra, List.cons_append, List.nil_append]
 refine gl_v rfl (o_move rfl) ?_
 refine gl_v rfl (o_extract rfl rfl) ?_
 refine gl_v rfl (o_extract rfl rfl) ?_
 refine gl_v rfl (o_extract rfl rfl) ?_
 refine gl_v rfl (o_assign rfl) ?_
 refine gl_v rfl (o_assign rfl) ?_
 refine gl_v rfl (o_assign rfl) ?_
 refine gl_nil ?_
 refine ge_then ?_
 refine g_seq ?_
 refine g_seq ?_
 refine g_region ?_
 refine gl_v rfl (o_move rfl) ?_
 refine gl_v rfl (o_is (c := true) (by simp; omega) (o_neq rfl rfl)) ?_
 refine gl_nil ?_
 refine ge_then ?_
 refine g_cond_true rfl ?_
 refine g_seq ?_
 refine g_region ?_
 refine gl_v rfl (o_build rfl rfl) ?_
 refine gl_v rfl (o_move rfl) ?_
 refine gl_v rfl (o_move rfl) ?_
 first | refine gl_u (o_storeSA rfl rfl rfl rfl (by simp; omega) (by simp)) ?_ | refine gl_u (o_storeA rfl rfl rfl rfl rfl) ?_
 refine gl_v rfl (o_assign rfl) ?_
 refine gl_v rfl (o_assign rfl) ?_
 refine gl_nil ?_
 refine ge_then ?_
 refine g_ret ?_
 refine ge_then_ret ?_
 exact ret_pg rfl rfl rfl [] (by unfold prgR progP; rw [hlx]; exact ⟨rfl, rfl⟩) (tO)

set_option maxRecDepth 8000 in
set_option maxHeartbeats 3000000 in
theorem ProgR_lexok (l : By) (hl : l.length ≤ 140737488355328) (X0 : List Tk) (hlx : lexAll l = .ok X0) : FnS Tryz.prog 12 [S l] [] (prgR l) := by
 refine fn_body Tryz.func12 rfl rfl rfl ?_
 intro W0 R
 simp only [List.zipIdx_cons, List.zipIdx_nil, List.map_cons, List.map_nil, Nat.zero_add, Nat.reduceAdd, List.cons_append, List.nil_append]
 have hTB : TB X0 := tb_of hlx
 have hX0 : X0.length ≤ 16384 := len_of hlx
 have hPP : progP l = (match kndsP (X0.length + 1) [] X0 with | .ok K _ => Except.ok K | .bad r => .error (fltOf l.length r)) := by unfold progP; rw [hlx]; rfl
 refine g_seq ?_
 refine g_region ?_
 refine gl_n rfl (o_alloc) ?_
 rintro _ _ ⟨b2, rfl, rfl⟩
 refine gl_v rfl (o_assign rfl) ?_
 refine gl_v rfl (o_assign rfl) ?_
 refine gl_nil ?_
 refine ge_then ?_
 refine g_seq ?_
 refine g_region ?_
 refine gl_v rfl (o_move rfl) ?_
 refine gl_c rfl (o_call rfl (RAll_spec l (by omega)) pA) ?_
 rintro _ R ⟨_, ⟨la, lc, rfl, rfl⟩, rfl⟩
 try simp only [List.cons_append, List.nil_append]
 rw [hlx]; simp only [rv, ra, List.cons_append, List.nil_append]
 refine gl_v rfl (o_move rfl) ?_
 refine gl_v rfl (o_extract rfl rfl) ?_
 refine gl_v rfl (o_extract rfl rfl) ?_
 refine gl_v rfl (o_extract rfl rfl) ?_
 refine gl_v rfl (o_assign rfl) ?_
 refine gl_v rfl (o_assign rfl) ?_
 refine gl_v rfl (o_assign rfl) ?_
 refine gl_nil ?_
 refine ge_then ?_
 refine g_seq ?_
 refine g_seq ?_
 refine g_region ?_
 refine gl_v rfl (o_move rfl) ?_
 refine gl_v rfl (o_is (c := false) (by rfl) (o_neq rfl rfl)) ?_
 refine gl_nil ?_
 refine ge_then ?_
 refine g_cond_false rfl ?_
 refine g_skip ?_
 refine ge_then ?_
 refine g_seq ?_
 refine g_region ?_
 refine gl_v rfl (o_move rfl) ?_
 refine gl_v rfl (o_build rfl rfl) ?_
 refine gl_n rfl (o_boxA rfl) ?_
 rintro _ _ ⟨b23, rfl, rfl⟩
 refine gl_v rfl (o_assign rfl) ?_
 refine gl_nil ?_
 refine ge_then ?_
 refine g_seq ?_
 refine g_region ?_
 refine gl_n rfl (o_alloc) ?_
 rintro _ _ ⟨b9, rfl, rfl⟩
 refine gl_nil ?_
 refine ge_then ?_
 refine g_seq ?_
 refine g_block ?_
 refine g_loop (ι := List Knd × Sg × Option Addr × Nat) (fun x => (∃ f, (x.2.1.2 = false → x.2.1.1.length < f) ∧ runP (kndsP f (strip x.1)) x.2.1 = kndsP (X0.length + 1) [] X0) ∧ x.1.length + x.2.1.1.length ≤ 16384 + (if x.2.1.2 then 1 else 0) ∧ Suf x.2.1.1 X0) (fun x => [(9, ptr b9 0), (8, ptr b23 0), (2, ptr b2 0), (0, S l)]) (fun x => own (.slice x.2.2.1 x.1.length x.2.2.2) 51 5 x.1.length (x.1.flatMap kndC) :: kndsA x.1 :: cel b9 25 [.slice x.2.2.1 x.1.length x.2.2.2] :: cel b2 25 [.slice none 0 0] :: txt b23 la lc X0 (x.2.1) :: tksA la lc X0 :: R) (fun x => mS x.2.1) ([], (X0, false), none, 0) (⟨⟨_, fun _ => Nat.lt_succ_self _, rfl⟩, by show 0 + X0.length ≤ _; omega, Suf.refl _⟩) ((Keep.cons rfl (Keep.cons rfl (Keep.cons rfl (Keep.cons rfl Keep.nil))))) (by dsimp only [txt]; rw [Nat.sub_self]; exact fun h s => (tO) h (own_nil0 (e := 51) (sz := 5) h (sat_nil (A := kndsA []) (fun _ h => by cases h) h s))) ?_
 rintro ⟨Ks, ρ, ka, kc⟩ ⟨⟨f, hf, hE⟩, hlen, hρ⟩
 replace hf : ρ.2 = false → ρ.1.length < f := hf
 replace hE : runP (kndsP f (strip Ks)) ρ = kndsP (X0.length + 1) [] X0 := hE
 replace hlen : Ks.length + ρ.1.length ≤ 16384 + (if ρ.2 then 1 else 0) := hlen
 replace hρ : Suf ρ.1 X0 := hρ
 have hn : Ks.length ≤ 16385 := by have := sb_le ρ.2; omega
 dsimp only
 refine g_seq ?_
 refine g_seq ?_
 rcases sg_cases ρ with ⟨T, rfl⟩ | rfl | ⟨t, T, rfl⟩
 ·
  have hb : kndsP (X0.length + 1) [] X0 = .bad T := by rw [← hE]; exact rp_bad rfl
  refine g_draw [] [] [(0, .loc), (1, .loc), (2, .loc), (3, .loc), (4, .loc), (5, .loc), (6, .loc), (7, .loc), (8, .loc), (9, .loc), (10, .loc), (11, .loc), (12, .loc), (13, .loc), (14, .loc), (15, .loc), (16, .loc)] [txt b23 la lc X0 (T, true), tksA la lc X0] mixed (by kernel_rfl) ?_
  refine go_v rfl .none rfl (o_move rfl) ?_
  refine go_v rfl .none rfl (o_nil rfl) ?_
  first | refine go_v rfl .none rfl (o_fldS rfl) ?_ | refine go_v rfl .none rfl (o_fld rfl) ?_
  refine go_v rfl .none rfl (o_is (c := true) (by rfl) (o_load rfl rfl)) ?_
  refine go_v rfl .none rfl (o_is (c := false) (by rfl) (o_not rfl)) ?_
  refine go_v rfl .none rfl (o_move rfl) ?_
  refine go_skip rfl (.no rfl rfl rfl) rfl ?_
  refine go_skip rfl (.no rfl rfl rfl) rfl ?_
  refine go_skip rfl (.no rfl rfl rfl) rfl ?_
  refine go_skip rfl (.no rfl rfl rfl) rfl ?_
  refine go_skip rfl (.no rfl rfl rfl) rfl ?_
  refine go_skip rfl (.no rfl rfl rfl) rfl ?_
  refine go_skip rfl (.no rfl rfl rfl) rfl ?_
  refine go_skip rfl (.no rfl rfl rfl) rfl ?_
  refine go_skip rfl (.no rfl rfl rfl) rfl ?_
  refine go_skip rfl (.no rfl rfl rfl) rfl ?_
  refine go_v rfl .none rfl (o_pickF rfl rfl rfl) ?_
  refine go_nil ?_
  refine ge_then ?_
  refine g_cond_false rfl ?_
  refine g_exit ?_
  refine ge_then_exit ?_
  refine ge_then_exit ?_
  refine ge_block_exit ?_
  refine ge_then ?_
  refine g_seq ?_
  refine g_seq ?_
  refine g_region ?_
  refine gl_v rfl (o_move rfl) ?_
  refine gl_v rfl (o_nil rfl) ?_
  first | refine gl_v rfl (o_fldS rfl) ?_ | refine gl_v rfl (o_fld rfl) ?_
  refine gl_v rfl (o_is (c := true) (by rfl) (o_load rfl rfl)) ?_
  refine gl_v rfl (o_is (c := false) (by rfl) (o_not rfl)) ?_
  refine gl_nil ?_
  refine ge_then ?_
  refine g_cond_false rfl ?_
  refine g_skip ?_
  refine ge_then ?_
  refine g_seq ?_
  refine g_seq ?_
  rcases T with _ | ⟨t, T⟩
  ·
   refine g_draw [] [] [(0, .loc), (1, .loc), (2, .loc), (3, .loc), (4, .loc), (5, .loc), (6, .loc), (7, .loc), (8, .loc), (9, .loc)] [txt b23 la lc X0 ([], true), tksA la lc X0] mixed (by kernel_rfl) ?_
   refine go_v rfl .none rfl (o_move rfl) ?_
   refine go_v rfl .none rfl (o_nil rfl) ?_
   first | refine go_v rfl .none rfl (o_fldS rfl) ?_ | refine go_v rfl .none rfl (o_fld rfl) ?_
   first | refine go_v rfl .none rfl (o_load rfl rfl) ?_ | refine go_v rfl .none rfl (o_loadS rfl rfl) ?_ | refine go_v rfl .none rfl (o_loadC rfl) ?_
   refine go_v rfl .none rfl (o_move rfl) ?_
   refine go_v rfl .none rfl (o_nil rfl) ?_
   first | refine go_v rfl .none rfl (o_fldS rfl) ?_ | refine go_v rfl .none rfl (o_fld rfl) ?_
   first | refine go_v rfl .none rfl (o_load rfl rfl) ?_ | refine go_v rfl .none rfl (o_loadS rfl rfl) ?_ | refine go_v rfl .none rfl (o_loadC rfl) ?_
   first | refine go_v rfl .none rfl (o_len rfl) ?_ | refine go_v rfl .none rfl (o_lenL rfl) ?_
   refine go_v rfl .none rfl (o_is (c := true) (by exact decide_eq_true (by simp only [List.length_nil]; omega)) (o_geq rfl rfl)) ?_
   refine go_nil ?_
   refine ge_then ?_
   refine g_cond_true rfl ?_
   refine g_seq ?_
   refine g_region ?_
   refine gl_v rfl (o_build rfl rfl) ?_
   refine gl_v rfl (o_move rfl) ?_
   refine gl_v rfl (o_lens rfl) ?_
   first | refine gl_u (o_storeSA rfl rfl rfl rfl (by simp; omega) (by simp)) ?_ | refine gl_u (o_storeA rfl rfl rfl rfl rfl) ?_
   refine gl_v rfl (o_assign rfl) ?_
   refine gl_v rfl (o_assign rfl) ?_
   refine gl_nil ?_
   refine ge_then ?_
   refine g_ret ?_
   refine ge_then_ret ?_
   exact ret_pg rfl rfl rfl [] (by unfold prgR; rw [hPP, hb]; exact ⟨rfl, rfl⟩) (tO)
  ·
   replace hρ : Suf (t :: T) X0 := hρ
   have hl1 := hρ.1
   have hlc : (t :: T).length = T.length + 1 := rfl
   have hi : X0.length - (t :: T).length < X0.length := by omega
   have hat := at_cons hρ
   refine g_draw [] [] [(0, .loc), (1, .loc), (2, .loc), (3, .loc), (4, .loc), (5, .loc), (6, .loc), (7, .loc), (8, .loc), (9, .loc)] [txt b23 la lc X0 (t :: T, true), tksA la lc X0] mixed (by kernel_rfl) ?_
   refine go_v rfl .none rfl (o_move rfl) ?_
   refine go_v rfl .none rfl (o_nil rfl) ?_
   first | refine go_v rfl .none rfl (o_fldS rfl) ?_ | refine go_v rfl .none rfl (o_fld rfl) ?_
   first | refine go_v rfl .none rfl (o_load rfl rfl) ?_ | refine go_v rfl .none rfl (o_loadS rfl rfl) ?_ | refine go_v rfl .none rfl (o_loadC rfl) ?_
   refine go_v rfl .none rfl (o_move rfl) ?_
   refine go_v rfl .none rfl (o_nil rfl) ?_
   first | refine go_v rfl .none rfl (o_fldS rfl) ?_ | refine go_v rfl .none rfl (o_fld rfl) ?_
   first | refine go_v rfl .none rfl (o_load rfl rfl) ?_ | refine go_v rfl .none rfl (o_loadS rfl rfl) ?_ | refine go_v rfl .none rfl (o_loadC rfl) ?_
   first | refine go_v rfl .none rfl (o_len rfl) ?_ | refine go_v rfl .none rfl (o_lenL rfl) ?_
   refine go_v rfl .none rfl (o_is (c := false) (by exact decide_eq_false (by (try dsimp only); omega)) (o_geq rfl rfl)) ?_
   refine go_nil ?_
   refine ge_then ?_
   refine g_cond_false rfl ?_
   refine g_skip ?_
   refine ge_then ?_
   refine g_seq ?_
   refine g_draw [12] [12] [(0, .loc), (1, .stab), (2, .stab), (3, .stab), (4, .stab), (5, .stab), (6, .stab), (7, .stab), (8, .stab), (9, .stab), (10, .stab), (11, .stab), (12, .eff), (13, .loc), (14, .loc)] [txt b23 la lc X0 (t :: T, true), tksA la lc X0] mixed (by kernel_rfl) ?_
   refine go_v rfl .none rfl (o_build rfl rfl) ?_
   refine go_vs rfl .none rfl (o_move rfl) (tO) ?_
   refine go_vs rfl .none rfl (o_nil rfl) (tO) ?_
   first | refine go_vs rfl .none rfl (o_fldS rfl) (tO) ?_ | refine go_vs rfl .none rfl (o_fld rfl) (tO) ?_
   first | refine go_vs rfl .none rfl (o_load rfl rfl) (tO) ?_ | refine go_vs rfl .none rfl (o_loadS rfl rfl) (tO) ?_ | refine go_vs rfl .none rfl (o_loadC rfl) (tO) ?_
   refine go_vs rfl .none rfl (o_move rfl) (tO) ?_
   refine go_vs rfl .none rfl (o_nil rfl) (tO) ?_
   first | refine go_vs rfl .none rfl (o_fldS rfl) (tO) ?_ | refine go_vs rfl .none rfl (o_fld rfl) (tO) ?_
   first | refine go_vs rfl .none rfl (o_load rfl rfl) (tO) ?_ | refine go_vs rfl .none rfl (o_loadS rfl rfl) (tO) ?_ | refine go_vs rfl .none rfl (o_loadC rfl) (tO) ?_
   refine go_vs rfl .none rfl (o_idxS rfl rfl hi) (tO) ?_
   first | refine go_vs rfl .none rfl (o_fldS rfl) (tO) ?_ | refine go_vs rfl .none rfl (o_fld rfl) (tO) ?_
   refine go_vs rfl .none rfl (o_loadS rfl (flat_get tkC 4 tkC_len hat (show (tkC t)[3]? = some _ from rfl))) (tO) ?_
   first | refine go_u rfl .none (o_storeSA rfl rfl rfl rfl (by simp; omega) (by simp)) (fun _ => (tO)) ?_ | refine go_u rfl .none (o_storeA rfl rfl rfl rfl rfl) (fun _ => (tO)) ?_
   refine go_v rfl .none rfl (o_assign rfl) ?_
   refine go_v rfl .none rfl (o_assign rfl) ?_
   refine go_nil ?_
   refine ge_then ?_
   refine g_ret ?_
   exact ret_pg rfl rfl rfl [] (by unfold prgR; rw [hPP, hb]; exact ⟨rfl, rfl⟩) (tO)
 ·
  have hb : kndsP (X0.length + 1) [] X0 = .ok (strip Ks) [] := by rw [← hE]; have hf1 : 0 < f := hf rfl; obtain ⟨g, rfl⟩ : ∃ g, f = g + 1 := ⟨f - 1, by omega⟩; exact rp_knds0 rfl rfl
  refine g_draw [] [] [(0, .loc), (1, .loc), (2, .loc), (3, .loc), (4, .loc), (5, .loc), (6, .loc), (7, .loc), (8, .loc), (9, .loc), (10, .loc), (11, .loc), (12, .loc), (13, .loc), (14, .loc), (15, .loc), (16, .loc)] [txt b23 la lc X0 ([], false), tksA la lc X0] mixed (by kernel_rfl) ?_
  refine go_v rfl .none rfl (o_move rfl) ?_
  refine go_v rfl .none rfl (o_nil rfl) ?_
  first | refine go_v rfl .none rfl (o_fldS rfl) ?_ | refine go_v rfl .none rfl (o_fld rfl) ?_
  refine go_v rfl .none rfl (o_is (c := false) (by rfl) (o_load rfl rfl)) ?_
  refine go_v rfl .none rfl (o_is (c := true) (by rfl) (o_not rfl)) ?_
  refine go_v rfl .none rfl (o_move rfl) ?_
  refine go_v rfl (.yes rfl rfl rfl) rfl (o_move rfl) ?_
  refine go_v rfl (.yes rfl rfl rfl) rfl (o_nil rfl) ?_
  first | refine go_v rfl (.yes rfl rfl rfl) rfl (o_fldS rfl) ?_ | refine go_v rfl (.yes rfl rfl rfl) rfl (o_fld rfl) ?_
  first | refine go_v rfl (.yes rfl rfl rfl) rfl (o_load rfl rfl) ?_ | refine go_v rfl (.yes rfl rfl rfl) rfl (o_loadS rfl rfl) ?_ | refine go_v rfl (.yes rfl rfl rfl) rfl (o_loadC rfl) ?_
  refine go_v rfl (.yes rfl rfl rfl) rfl (o_move rfl) ?_
  refine go_v rfl (.yes rfl rfl rfl) rfl (o_nil rfl) ?_
  first | refine go_v rfl (.yes rfl rfl rfl) rfl (o_fldS rfl) ?_ | refine go_v rfl (.yes rfl rfl rfl) rfl (o_fld rfl) ?_
  first | refine go_v rfl (.yes rfl rfl rfl) rfl (o_load rfl rfl) ?_ | refine go_v rfl (.yes rfl rfl rfl) rfl (o_loadS rfl rfl) ?_ | refine go_v rfl (.yes rfl rfl rfl) rfl (o_loadC rfl) ?_
  first | refine go_v rfl (.yes rfl rfl rfl) rfl (o_len rfl) ?_ | refine go_v rfl (.yes rfl rfl rfl) rfl (o_lenL rfl) ?_
  refine go_v rfl (.yes rfl rfl rfl) rfl (o_is (c := false) (by exact decide_eq_false (by simp only [List.length_nil]; omega)) (o_lss rfl rfl)) ?_
  refine go_v rfl .none rfl (o_pickT rfl rfl rfl) ?_
  refine go_nil ?_
  refine ge_then ?_
  refine g_cond_false rfl ?_
  refine g_exit ?_
  refine ge_then_exit ?_
  refine ge_then_exit ?_
  refine ge_block_exit ?_
  refine ge_then ?_
  refine g_seq ?_
  refine g_seq ?_
  refine g_region ?_
  refine gl_v rfl (o_move rfl) ?_
  refine gl_v rfl (o_nil rfl) ?_
  first | refine gl_v rfl (o_fldS rfl) ?_ | refine gl_v rfl (o_fld rfl) ?_
  refine gl_v rfl (o_is (c := false) (by rfl) (o_load rfl rfl)) ?_
  refine gl_v rfl (o_is (c := true) (by rfl) (o_not rfl)) ?_
  refine gl_nil ?_
  refine ge_then ?_
  refine g_cond_true rfl ?_
  refine g_seq ?_
  refine g_region ?_
  first | refine gl_v rfl (o_loadSA rfl rfl rfl) ?_ | refine gl_v rfl (o_loadA rfl rfl rfl) ?_
  first | refine gl_u (o_storeSA rfl rfl rfl rfl (by simp; omega) (by simp)) ?_ | refine gl_u (o_storeA rfl rfl rfl rfl rfl) ?_
  refine gl_v rfl (o_assign rfl) ?_
  refine gl_v rfl (o_assign rfl) ?_
  refine gl_nil ?_
  refine ge_then ?_
  refine g_ret ?_
  refine ge_then_ret ?_
  exact ret_pg rfl rfl rfl [prgA ka kc Ks] (by unfold prgR; rw [hPP, hb]; exact ⟨ka, kc, Ks, rfl, rfl, rfl⟩) (fun h s => mk_prg2 (e := 51) (by omega) h ((tO) h s))
 ·
  replace hρ : Suf (t :: T) X0 := hρ
  have hl1 := hρ.1
  have hlc : (t :: T).length = T.length + 1 := rfl
  have hi : X0.length - (t :: T).length < X0.length := by omega
  have hat := at_cons hρ
  refine g_draw [] [] [(0, .loc), (1, .loc), (2, .loc), (3, .loc), (4, .loc), (5, .loc), (6, .loc), (7, .loc), (8, .loc), (9, .loc), (10, .loc), (11, .loc), (12, .loc), (13, .loc), (14, .loc), (15, .loc), (16, .loc)] [txt b23 la lc X0 (t :: T, false), tksA la lc X0] mixed (by kernel_rfl) ?_
  refine go_v rfl .none rfl (o_move rfl) ?_
  refine go_v rfl .none rfl (o_nil rfl) ?_
  first | refine go_v rfl .none rfl (o_fldS rfl) ?_ | refine go_v rfl .none rfl (o_fld rfl) ?_
  refine go_v rfl .none rfl (o_is (c := false) (by rfl) (o_load rfl rfl)) ?_
  refine go_v rfl .none rfl (o_is (c := true) (by rfl) (o_not rfl)) ?_
  refine go_v rfl .none rfl (o_move rfl) ?_
  refine go_v rfl (.yes rfl rfl rfl) rfl (o_move rfl) ?_
  refine go_v rfl (.yes rfl rfl rfl) rfl (o_nil rfl) ?_
  first | refine go_v rfl (.yes rfl rfl rfl) rfl (o_fldS rfl) ?_ | refine go_v rfl (.yes rfl rfl rfl) rfl (o_fld rfl) ?_
  first | refine go_v rfl (.yes rfl rfl rfl) rfl (o_load rfl rfl) ?_ | refine go_v rfl (.yes rfl rfl rfl) rfl (o_loadS rfl rfl) ?_ | refine go_v rfl (.yes rfl rfl rfl) rfl (o_loadC rfl) ?_
  refine go_v rfl (.yes rfl rfl rfl) rfl (o_move rfl) ?_
  refine go_v rfl (.yes rfl rfl rfl) rfl (o_nil rfl) ?_
  first | refine go_v rfl (.yes rfl rfl rfl) rfl (o_fldS rfl) ?_ | refine go_v rfl (.yes rfl rfl rfl) rfl (o_fld rfl) ?_
  first | refine go_v rfl (.yes rfl rfl rfl) rfl (o_load rfl rfl) ?_ | refine go_v rfl (.yes rfl rfl rfl) rfl (o_loadS rfl rfl) ?_ | refine go_v rfl (.yes rfl rfl rfl) rfl (o_loadC rfl) ?_
  first | refine go_v rfl (.yes rfl rfl rfl) rfl (o_len rfl) ?_ | refine go_v rfl (.yes rfl rfl rfl) rfl (o_lenL rfl) ?_
  refine go_v rfl (.yes rfl rfl rfl) rfl (o_is (c := true) (by exact decide_eq_true (by (try dsimp only); omega)) (o_lss rfl rfl)) ?_
  refine go_v rfl .none rfl (o_pickT rfl rfl rfl) ?_
  refine go_nil ?_
  refine ge_then ?_
  refine g_cond_true rfl ?_
  refine g_skip ?_
  refine ge_then ?_
  refine g_block ?_
  refine g_seq ?_
  refine g_region ?_
  refine gl_v rfl (o_move rfl) ?_
  refine gl_c rfl (o_call rfl (mustR_spec b23 la lc X0 hX0 ((t :: T, false)) (wKind) (hρ)) pA) ?_
  rintro _ R ⟨_, ⟨rfl, rfl⟩, rfl⟩
  try simp only [List.cons_append, List.nil_append]
  refine gl_nil ?_
  refine ge_then ?_
  refine g_draw [3, 4, 5, 7] [3, 4] [(0, .stab), (1, .stab), (2, .loc), (3, .eff), (4, .eff), (5, .eff), (6, .loc), (7, .eff)] [cel b9 25 [.slice ka Ks.length kc]] mixed (by kernel_rfl) ?_
  first | refine go_vs rfl .none rfl (o_fldS rfl) (tO) ?_ | refine go_vs rfl .none rfl (o_fld rfl) (tO) ?_
  first | refine go_vs rfl .none rfl (o_load rfl rfl) (tO) ?_ | refine go_vs rfl .none rfl (o_loadS rfl rfl) (tO) ?_ | refine go_vs rfl .none rfl (o_loadC rfl) (tO) ?_
  refine go_v rfl .none rfl (o_move rfl) ?_
  refine go_c rfl .none rfl (o_call rfl (kindR_spec b23 la lc X0 hX0 hTB (mustS wKind (t :: T, false)) ((sv_must wKind _).trans hρ)) pA) ?_
  rintro _ R ⟨_, ⟨k, ν, rfl, rfl, hout⟩, rfl⟩
  try simp only [List.cons_append, List.nil_append]
  refine ⟨(fun _ => (tO)), ?_⟩
  first | refine go_n rfl .none rfl (o_buildS1 rfl rfl rfl) ?_ | refine go_n rfl .none rfl (o_buildS1A rfl rfl rfl rfl) ?_ | refine go_n rfl .none rfl (o_buildS rfl rfl rfl rfl) ?_
  rintro _ _ ⟨b47, rfl, rfl⟩
  refine ⟨(fun _ => (tO)), ?_⟩
  refine go_n rfl .none rfl (o_append rfl rfl pA rfl rfl rfl (by omega) (by unfold maxLen; omega)) ?_
  rintro _ _ ⟨a48, c48, rfl, rfl⟩
  rw [len_snoc Ks k, flat_snoc' kndC Ks k]
  refine ⟨(fun hG => absurd hG (by decide)), ?_⟩
  first | refine go_v rfl .none rfl (o_fldS rfl) ?_ | refine go_v rfl .none rfl (o_fld rfl) ?_
  first | refine go_u rfl .none (o_store rfl rfl rfl rfl) (fun hG => absurd hG (by decide)) ?_ | refine go_u rfl .none (o_storeS rfl rfl rfl (by first | assumption | omega | simp)) (fun hG => absurd hG (by decide)) ?_
  refine go_nil ?_
  refine ge_block ?_
  have hf1 : (t :: T).length < f := hf rfl
  obtain ⟨f, rfl⟩ : ∃ g, f = g + 1 := ⟨f - 1, by omega⟩
  have hq1 := lt_of' (p := fun T => (mustP [wKind] T).bind fun _ r => kndP r) (fun T => (lv_must _ T).bind fun _ r _ => lv_knd r) (fun T => (lt_must T).le fun _ r => lv_knd r) (hout.trans (rp_bind (f := fun _ r => kndP r) (rp_must wKind (t :: T, false)))) rfl
  refine ge_imp (fun h s => knds_push (r := k) (R := Ks) h (Part.to (m := [kndA k, kndsA Ks]) pA s)) ?_
  refine ge_round (Ks ++ [k], ν, a48, c48) ⟨⟨f, fun h => by have h8 := hq1.1 h; dsimp only at h8 ⊢; omega, by rw [← hE, strip_app]; exact rp_knds rfl (by simp) hout⟩, by rw [List.length_append, List.length_singleton]; exact cnt_ok (σ := (t :: T, false)) rfl hq1 hlen, (sv_of lv_knd hout).trans ((sv_must wKind _).trans hρ)⟩ (mS_lt (σ := (t :: T, false)) rfl hq1) (Keep.cons rfl (Keep.cons rfl (Keep.cons rfl (Keep.cons rfl (Keep.nil))))) (tO)

theorem ProgR_spec (l : By) (hl : l.length ≤ 140737488355328) : FnS Tryz.prog 12 [S l] [] (prgR l) := by
  cases hlx : lexAll l with
  | error e => exact ProgR_lexerr l hl e hlx
  | ok T => exact ProgR_lexok l hl T hlx
theorem ProgR_ok (l : By) (hl : l.length ≤ 140737488355328) (K : List Knd) (h : progP l = .ok K) : FnS Tryz.prog 12 [S l] [] (fun u Bs => ∃ a c K', strip K' = K ∧ u = .tuple #[.agg #[.slice a K'.length c], I64 0, I64 (-1)] ∧ Bs = [prgA a c K']) := (ProgR_spec l hl).mono fun u Bs hb => by unfold prgR at hb; rw [h] at hb; exact hb
theorem ProgR_er (l : By) (hl : l.length ≤ 140737488355328) (e : Err) (h : progP l = .error e) : FnS Tryz.prog 12 [S l] [] (fun u Bs => u = .tuple #[.agg #[.slice none 0 0], I64 e.1, I64 e.2] ∧ Bs = []) := (ProgR_spec l hl).mono fun u Bs hb => by unfold prgR at hb; rw [h] at hb; exact hb

set_option maxRecDepth 8000 in
set_option maxHeartbeats 1000000 in
theorem Programs_er {W : World} (hG : Gok W) (l : By) (hl : l.length ≤ 140737488351232) (e : Err) (hp : progP l = .error e) : FnS Tryz.prog 3 [S l] [base W] (fun u Bs => u = .bool true ∧ Bs = [base W]) := by
 refine fn_body Tryz.func3 rfl rfl rfl ?_
 intro W0 R
 simp only [List.zipIdx_cons, List.zipIdx_nil, List.map_cons, List.map_nil, Nat.zero_add, Nat.reduceAdd, List.cons_append, List.nil_append]
 have he := prg_cd hp
 refine g_seq ?_
 refine g_region ?_
 refine gl_v rfl (o_assign rfl) ?_
 refine gl_nil ?_
 refine ge_then ?_
 refine g_seq ?_
 refine g_seq ?_
 refine g_region ?_
 refine gl_c rfl (o_call rfl (alive_spec hG) pA) ?_
 rintro _ R ⟨_, ⟨rfl, rfl⟩, rfl⟩
 try simp only [List.cons_append, List.nil_append]
 refine gl_v rfl (o_is (c := false) (by rfl) (o_not rfl)) ?_
 refine gl_nil ?_
 refine ge_then ?_
 refine g_cond_false rfl ?_
 refine g_skip ?_
 refine ge_then ?_
 refine g_seq ?_
 refine g_region ?_
 refine gl_v rfl (o_move rfl) ?_
 refine gl_c rfl (o_call rfl (Prog_er hG (base W) l (by omega) e hp) pA) ?_
 rintro _ R ⟨_, ⟨be, rfl, rfl⟩, rfl⟩
 try simp only [List.cons_append, List.nil_append]
 refine gl_v rfl (o_move rfl) ?_
 refine gl_v rfl (o_extract rfl rfl) ?_
 refine gl_v rfl (o_extract rfl rfl) ?_
 refine gl_n rfl (o_alloc) ?_
 rintro _ _ ⟨b3, rfl, rfl⟩
 first | refine gl_u (o_storeSA rfl rfl rfl rfl (by simp; omega) (by simp)) ?_ | refine gl_u (o_storeA rfl rfl rfl rfl rfl) ?_
 refine gl_v rfl (o_assign rfl) ?_
 refine gl_nil ?_
 refine ge_then ?_
 refine g_seq ?_
 refine g_region ?_
 refine gl_v rfl (o_move rfl) ?_
 refine gl_c rfl (o_call rfl (ProgR_er l (by omega) e hp) pA) ?_
 rintro _ R ⟨_, ⟨rfl, rfl⟩, rfl⟩
 try simp only [List.cons_append, List.nil_append]
 refine gl_v rfl (o_move rfl) ?_
 refine gl_v rfl (o_extract rfl rfl) ?_
 refine gl_v rfl (o_extract rfl rfl) ?_
 refine gl_v rfl (o_extract rfl rfl) ?_
 refine gl_n rfl (o_alloc) ?_
 rintro _ _ ⟨b5, rfl, rfl⟩
 first | refine gl_u (o_storeSA rfl rfl rfl rfl (by simp; omega) (by simp)) ?_ | refine gl_u (o_storeA rfl rfl rfl rfl rfl) ?_
 refine gl_v rfl (o_assign rfl) ?_
 refine gl_v rfl (o_assign rfl) ?_
 refine gl_nil ?_
 refine ge_then ?_
 refine g_seq ?_
 refine g_seq ?_
 refine g_region ?_
 refine gl_v rfl (o_move rfl) ?_
 refine gl_v rfl (o_is (c := true) (by simp; omega) (o_neq rfl rfl)) ?_
 refine gl_nil ?_
 refine ge_then ?_
 refine g_cond_true rfl ?_
 refine g_seq ?_
 refine g_region ?_
 refine gl_v rfl (o_move rfl) ?_
 refine gl_v rfl (o_neqIn rfl) ?_
 refine gl_v rfl (o_move rfl) ?_
 refine gl_gT rfl rfl rfl ?_
 first | refine gl_v rfl (o_fldS rfl) ?_ | refine gl_v rfl (o_fld rfl) ?_
 refine gl_gT rfl rfl rfl ?_
 first | refine gl_v rfl (o_load rfl rfl) ?_ | refine gl_v rfl (o_loadS rfl rfl) ?_ | refine gl_v rfl (o_loadC rfl) ?_
 refine gl_gT rfl rfl rfl ?_
 first | refine gl_v rfl (o_len rfl) ?_ | refine gl_v rfl (o_lenL rfl) ?_
 refine gl_gT rfl rfl rfl ?_
 refine gl_v rfl (o_is (c := true) (by rfl) (o_eql rfl rfl)) ?_
 refine gl_v rfl (o_pickT rfl rfl rfl) ?_
 refine gl_v rfl (o_move rfl) ?_
 refine gl_gT rfl rfl rfl ?_
 refine gl_v rfl (o_move rfl) ?_
 refine gl_gT rfl rfl rfl ?_
 refine gl_c rfl (o_call rfl (Code_err hG be e) pA) ?_
 rintro _ R ⟨_, ⟨rfl, rfl⟩, rfl⟩
 try simp only [List.cons_append, List.nil_append]
 refine gl_gT rfl rfl rfl ?_
 refine gl_v rfl (o_move rfl) ?_
 refine gl_gT rfl rfl rfl ?_
 refine gl_v rfl (o_is (c := true) (by simp) (o_eql rfl rfl)) ?_
 refine gl_v rfl (o_pickT rfl rfl rfl) ?_
 refine gl_v rfl (o_move rfl) ?_
 refine gl_gT rfl rfl rfl ?_
 refine gl_v rfl (o_move rfl) ?_
 refine gl_gT rfl rfl rfl ?_
 refine gl_c rfl (o_call rfl (At_err hG be e) pA) ?_
 rintro _ R ⟨_, ⟨rfl, rfl⟩, rfl⟩
 try simp only [List.cons_append, List.nil_append]
 refine gl_gT rfl rfl rfl ?_
 refine gl_v rfl (o_move rfl) ?_
 refine gl_gT rfl rfl rfl ?_
 refine gl_v rfl (o_is (c := true) (by simp) (o_eql rfl rfl)) ?_
 refine gl_v rfl (o_pickT rfl rfl rfl) ?_
 refine gl_v rfl (o_assign rfl) ?_
 refine gl_nil ?_
 refine ge_then ?_
 refine g_ret ?_
 refine ge_then_ret ?_
 refine ret1 (.inl rfl) rfl rfl [base W] (⟨rfl, rfl⟩) (tO)

set_option maxRecDepth 8000 in
set_option maxHeartbeats 1000000 in
theorem Programs_ok {W : World} (hG : Gok W) (l : By) (hl : l.length ≤ 140737488351232) (K : List Knd) (hp : progP l = .ok K) : FnS Tryz.prog 3 [S l] [base W] (fun u Bs => u = .bool true ∧ Bs = [base W]) := by
 refine fn_body Tryz.func3 rfl rfl rfl ?_
 intro W0 R
 simp only [List.zipIdx_cons, List.zipIdx_nil, List.map_cons, List.map_nil, Nat.zero_add, Nat.reduceAdd, List.cons_append, List.nil_append]
 refine g_seq ?_
 refine g_region ?_
 refine gl_v rfl (o_assign rfl) ?_
 refine gl_nil ?_
 refine ge_then ?_
 refine g_seq ?_
 refine g_seq ?_
 refine g_region ?_
 refine gl_c rfl (o_call rfl (alive_spec hG) pA) ?_
 rintro _ R ⟨_, ⟨rfl, rfl⟩, rfl⟩
 try simp only [List.cons_append, List.nil_append]
 refine gl_v rfl (o_is (c := false) (by rfl) (o_not rfl)) ?_
 refine gl_nil ?_
 refine ge_then ?_
 refine g_cond_false rfl ?_
 refine g_skip ?_
 refine ge_then ?_
 refine g_seq ?_
 refine g_region ?_
 refine gl_v rfl (o_move rfl) ?_
 refine gl_c rfl (o_call rfl (Prog_ok hG (base W) l (by omega) K hp) pA) ?_
 rintro _ R ⟨_, ⟨pa, pc, K2, hK2, rfl, rfl⟩, rfl⟩
 try simp only [List.cons_append, List.nil_append]
 refine gl_v rfl (o_move rfl) ?_
 refine gl_v rfl (o_extract rfl rfl) ?_
 refine gl_v rfl (o_extract rfl rfl) ?_
 refine gl_n rfl (o_alloc) ?_
 rintro _ _ ⟨b3, rfl, rfl⟩
 first | refine gl_u (o_storeSA rfl rfl rfl rfl (by simp; omega) (by simp)) ?_ | refine gl_u (o_storeA rfl rfl rfl rfl rfl) ?_
 refine gl_v rfl (o_assign rfl) ?_
 refine gl_nil ?_
 refine ge_then ?_
 refine g_seq ?_
 refine g_region ?_
 refine gl_v rfl (o_move rfl) ?_
 refine gl_c rfl (o_call rfl (ProgR_ok l (by omega) K hp) pA) ?_
 rintro _ R ⟨_, ⟨qa, qc, K3, hK3, rfl, rfl⟩, rfl⟩
 try simp only [List.cons_append, List.nil_append]
 refine gl_v rfl (o_move rfl) ?_
 refine gl_v rfl (o_extract rfl rfl) ?_
 refine gl_v rfl (o_extract rfl rfl) ?_
 refine gl_v rfl (o_extract rfl rfl) ?_
 refine gl_n rfl (o_alloc) ?_
 rintro _ _ ⟨b5, rfl, rfl⟩
 first | refine gl_u (o_storeSA rfl rfl rfl rfl (by simp; omega) (by simp)) ?_ | refine gl_u (o_storeA rfl rfl rfl rfl rfl) ?_
 refine gl_v rfl (o_assign rfl) ?_
 refine gl_v rfl (o_assign rfl) ?_
 refine gl_nil ?_
 refine ge_then ?_
 refine g_seq ?_
 refine g_seq ?_
 refine g_region ?_
 refine gl_v rfl (o_move rfl) ?_
 refine gl_v rfl (o_is (c := false) (by rfl) (o_neq rfl rfl)) ?_
 refine gl_nil ?_
 refine ge_then ?_
 refine g_cond_false rfl ?_
 refine g_skip ?_
 refine ge_then ?_
 refine g_seq ?_
 refine g_fact (fact_ofX (A := prgA pa pc K2) sE fun h a => lens_of a) ?_
 intro hln
 refine g_region ?_
 refine gl_v rfl (o_move rfl) ?_
 refine gl_v rfl (o_eqlnI rfl) ?_
 refine gl_v rfl (o_move rfl) ?_
 refine gl_gT rfl rfl rfl ?_
 first | refine gl_v rfl (o_loadSA rfl rfl rfl) ?_ | refine gl_v rfl (o_loadA rfl rfl rfl) ?_
 refine gl_gT rfl rfl rfl ?_
 first | refine gl_v rfl (o_loadSA rfl rfl rfl) ?_ | refine gl_v rfl (o_loadA rfl rfl rfl) ?_
 refine gl_gT rfl rfl rfl ?_
 refine gl_imp (fun h s => sat_both.2 (Part.to (m := [prgA pa pc K2, prgA qa qc K3]) pA s)) ?_
 refine gl_c rfl (o_call rfl (rSame_spec (both (prgA pa pc K2) (prgA qa qc K3)) K2 K3 pa qa pc qc (prg_l fun h p => p) (prg_r fun h p => p) hln.1 hln.2) pA) ?_
 rintro _ R ⟨_, ⟨rfl, rfl⟩, rfl⟩
 try simp only [List.cons_append, List.nil_append]
 rw [eq_same (show strip K2 = strip K3 by rw [hK2, hK3])]
 refine gl_imp (fun h s => sat_both.1 (Sel.to (A := both (prgA pa pc K2) (prgA qa qc K3)) sE s)) ?_
 try simp only [List.append_eq, List.nil_append, List.cons_append]
 refine gl_v rfl (o_pickT rfl rfl rfl) ?_
 refine gl_v rfl (o_assign rfl) ?_
 refine gl_nil ?_
 refine ge_then ?_
 refine g_ret ?_
 refine ret1 (.inl rfl) rfl rfl [base W] (⟨rfl, rfl⟩) (tO)

theorem ParsePrograms_spec {W : World} (hG : Gok W) (l : By) (hl : l.length ≤ 140737488351232) : FnS Tryz.prog 3 [S l] [base W] (fun u Bs => u = .bool true ∧ Bs = [base W]) := by
  cases hp : progP l with
  | error e => exact Programs_er hG l hl e hp
  | ok K => exact Programs_ok hG l hl K hp

end Go.Proofs.YtgkjnilckmminaaGreatDoor.L
