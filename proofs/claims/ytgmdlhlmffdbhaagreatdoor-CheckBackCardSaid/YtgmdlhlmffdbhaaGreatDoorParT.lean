/-
  Parse: Program and its deferred closure. Own work, printed in part by a program of its own.
-/
import Derived.Test.YtgmdlhlmffdbhaaGreatDoorParS
set_option linter.unusedSimpArgs false
set_option linter.unusedVariables false
set_option linter.unusedSectionVars false
namespace Go.Proofs.YtgmdlhlmffdbhaaGreatDoor.L
open Go.L Go.L.Lx Go.L.Pg Go.L.Pa
instance : TZero Tryz.prog 65 (.pointer none) := ⟨let ⟨i, a, b, _, _⟩ := info_of inf65; ⟨i, a, b⟩⟩
section
variable {W0 : World} {As Bs : List Assn}
set_option maxRecDepth 8000 in
/-- what the closure does, where its frame panics and where it returns -/
theorem catch_pan (b2 b3 bx : Nat) (old new : List Value) (F : List Assn) (w : World) (s : St W0 (cel b2 24 old :: cel b3 27 new :: F) w) (ho : old.length = 1) (hn : new.length = 1) :
    CallsD Tryz.prog 22 #[ptr b2 0, ptr b3 0] (.panicking (fltC bx)) w fun e u' w' => e = .returned (.tuple #[]) ∧ u' = .panicking [{ v := errV bx, recovered := true }] ∧ St W0 (cel b2 24 [.slice none 0 0] :: cel b3 27 [errV bx] :: F) w' := by
  refine callsD_of_wpS Tryz.func22 rfl fun c₀ cs hu => ?_
  have hs0 : HasSl 13 [(0, ptr b2 0), (1, ptr b3 0)] { tmps := (#[ptr b2 0, ptr b3 0] : Array Value) ++ Array.replicate (13 - 2) undef, defers := [] } := slots_start [ptr b2 0, ptr b3 0] 13 (show 2 ≤ 13 by decide)
  refine wpS_seq (wpS_region ?_)
  change wpOpsS Tryz.prog _ _ [0, 1, 2, 3, 4, 5, 6] _ _ _
  refine wpS_rec rfl rfl hs0 (by simp only [recoverD, hu]; rfl) fun a hs => ?_
  refine wpS_v rfl rfl hs s (o_tas Tryz.underlying65 rfl rfl) fun a hs => ?_
  refine wpS_v rfl rfl hs s (o_move rfl) fun a hs => ?_
  refine wpS_v rfl rfl hs s (o_extract rfl rfl) fun a hs => ?_
  refine wpS_v rfl rfl hs s (o_extract rfl rfl) fun a hs => ?_
  refine wpS_v rfl rfl hs s (o_assign rfl) fun a hs => ?_
  refine wpS_v rfl rfl hs s (o_assign rfl) fun a hs => ?_
  change Code.wpS Tryz.prog _ _ a _ w
  refine wpS_of_wp (g_of (n := 13) ?_ hs s)
  clear hs a
  refine g_seq (g_region (gl_v rfl (o_move rfl) (gl_nil (ge_then ?_))))
  refine g_cond_true rfl (g_region ?_)
  refine gl_v rfl (o_build rfl rfl) ?_
  refine gl_v rfl (o_move rfl) ?_
  refine gl_v rfl (o_iface Tryz.underlying65 rfl rfl) ?_
  obtain ⟨x, rfl⟩ : ∃ x, old = [x] := by match old, ho with | [x], _ => exact ⟨x, rfl⟩
  obtain ⟨y, rfl⟩ : ∃ y, new = [y] := by match new, hn with | [y], _ => exact ⟨y, rfl⟩
  refine gl_u (o_storeA rfl rfl rfl rfl rfl) ?_
  refine gl_u (o_store rfl rfl rfl rfl) ?_
  refine gl_nil fun a w hs s => ?_
  exact ⟨hs.defers, _, rfl, .tuple #[], results_none rfl _ _ _, rfl, rfl, s⟩
set_option maxRecDepth 8000 in
theorem catch_idle (b2 b3 : Nat) (w : World) :
    CallsD Tryz.prog 22 #[ptr b2 0, ptr b3 0] .returning w fun e u' w' => e = .returned (.tuple #[]) ∧ u' = .returning ∧ w' = w := by
  refine callsD_of_wpS Tryz.func22 rfl fun c₀ cs hu => ?_
  have hs0 : HasSl 13 [(0, ptr b2 0), (1, ptr b3 0)] { tmps := (#[ptr b2 0, ptr b3 0] : Array Value) ++ Array.replicate (13 - 2) undef, defers := [] } := slots_start [ptr b2 0, ptr b3 0] 13 (show 2 ≤ 13 by decide)
  have s : St w [] w := ⟨rfl, rfl, rfl, Nat.le_refl _, trivial⟩
  refine wpS_seq (wpS_region ?_)
  change wpOpsS Tryz.prog _ _ [0, 1, 2, 3, 4, 5, 6] _ _ _
  refine wpS_rec0 rfl rfl hs0 (by simp only [recoverD, hu]) fun a hs => ?_
  refine wpS_v rfl rfl hs s (o_tasn Tryz.underlying65 rfl rfl) fun a hs => ?_
  refine wpS_v rfl rfl hs s (o_move rfl) fun a hs => ?_
  refine wpS_v rfl rfl hs s (o_extract rfl rfl) fun a hs => ?_
  refine wpS_v rfl rfl hs s (o_extract rfl rfl) fun a hs => ?_
  refine wpS_v rfl rfl hs s (o_assign rfl) fun a hs => ?_
  refine wpS_v rfl rfl hs s (o_assign rfl) fun a hs => ?_
  change Code.wpS Tryz.prog _ _ a _ w
  refine wpS_seq (wpS_region (wpS_v rfl rfl hs s (o_move rfl) fun a hs => ?_))
  change Code.wpS Tryz.prog _ _ a _ w
  refine wpS_of_wp ?_
  refine wp_cond_false (hs.eval rfl) (wp_skip ?_)
  refine ⟨hs.defers, .returning, ?_, .tuple #[], results_none rfl _ _ _, rfl, rfl, rfl⟩
  cases c₀; simp_all
abbrev prgD (b2 b3 : Nat) : List Deferred := [⟨.fn (.func 22) #[ptr b2 0, ptr b3 0], #[]⟩]
def prgPost (l : By) (W : World) : Value → List Assn → Prop := fun u Bs => match progP l with
  | .ok K => ∃ a c K', strip K' = K ∧ u = .tuple #[.agg #[.slice a K'.length c], .nilIface] ∧ Bs = [prgA a c K', base W]
  | .error e => ∃ b, u = .tuple #[.agg #[.slice none 0 0], errV b] ∧ Bs = [errM b e, base W]
abbrev prgQ (l : By) (W W0 : World) (R : List Assn) : Exit → Act → World → Prop := bodyPostD Tryz.prog Tryz.f7 fun e w' => ∃ v Bs, e = .returned v ∧ prgPost l W v Bs ∧ St W0 (Bs ++ R) w'
theorem res_prg {tmps : Array Value} {b2 b3 : Nat} {x y : Value} {As : List Assn} {w : World} {u2 u3 : Obj → List Assn} (h2 : tmps[2]? = some (ptr b2 0)) (h3 : tmps[3]? = some (ptr b3 0)) (s : St W0 As w) [Owns b2 As (.cells [x].toArray 24 (0, 0)) u2] [Owns b3 As (.cells [y].toArray 27 (0, 0)) u3] :
    (results Tryz.f7 tmps).run Tryz.prog w = .ok (.tuple #[.agg #[x], y]) w := by
  have r1 := agg_res (P := Tryz.prog) (T := 24) (b := b2) (off := 0) (vs := [x]) s rfl rfl
  have hb := s.heap (b := b3)
  have hc : w.cell? ⟨b3, 0, none⟩ = some y := by simp [World.cell?, hb]
  obtain ⟨⟨dd, g1, g2⟩, _⟩ := (inferInstance : TCell Tryz.prog 27)
  have hr : Tryz.f7.results = #[.cell 2 24, .cell 3 27] := rfl
  have r2 : (loadVar 27 ⟨b3, 0, none⟩).run Tryz.prog w = .ok y w := by simp [loadVar, rA0 g1 g2, run_load, hc]
  simp [results, hr, h2, h3, asAddr, r1, r2]
theorem prg_pan {l : By} {W : World} {R : List Assn} {e : Err} (he : progP l = .error e) {b2 b3 bx : Nat} {x y : Value} {a : Act} {w : World} (hd : a.defers = prgD b2 b3) (h2 : a.tmps[2]? = some (ptr b2 0)) (h3 : a.tmps[3]? = some (ptr b3 0))
    (s : St W0 (errM bx e :: cel b2 24 [x] :: cel b3 27 [y] :: base W :: R) w) : prgQ l W W0 R (.panic (fltC bx)) a w := by
  show Leaves Tryz.prog _ a.tmps _ a.defers (.panicking (fltC bx)) w
  rw [hd]
  refine leaves_cons (f := 22) (args := #[ptr b2 0, ptr b3 0]) (by simp) (by simp [invoke, run_callFunc]) ?_
  refine (catch_pan b2 b3 bx [x] [y] (errM bx e :: base W :: R) w (s.imp (tO)) rfl rfl).mono ?_
  rintro e' u' w'' ⟨rfl, rfl, s'⟩
  refine ⟨_, res_prg h2 h3 s', _, [errM bx e, base W], rfl, ?_, s'.imp fun h s => Sat.drop (Sat.drop s)⟩
  unfold prgPost; rw [he]; exact ⟨bx, rfl, rfl⟩
theorem prg_ret {l : By} {W : World} {R : List Assn} {K : List Knd} {K' : List Knd} (he : progP l = .ok K) (hK : strip K' = K) {ad : Option Addr} {c : Nat} {b2 b3 : Nat} {a : Act} {w : World} (hd : a.defers = prgD b2 b3) (h2 : a.tmps[2]? = some (ptr b2 0)) (h3 : a.tmps[3]? = some (ptr b3 0))
    (s : St W0 (cel b2 24 [.slice ad K'.length c] :: cel b3 27 [.nilIface] :: prgA ad c K' :: base W :: R) w) : prgQ l W W0 R .ret a w := by
  show Leaves Tryz.prog _ a.tmps _ a.defers .returning w
  rw [hd]
  refine leaves_cons (f := 22) (args := #[ptr b2 0, ptr b3 0]) (by simp) (by simp [invoke, run_callFunc]) ?_
  refine (catch_idle b2 b3 w).mono ?_
  rintro e' u' w'' ⟨rfl, rfl, rfl⟩
  refine ⟨_, res_prg h2 h3 s, _, [prgA ad c K', base W], rfl, ?_, s.imp fun h s => Sat.drop (Sat.drop s)⟩
  unfold prgPost; rw [he]; exact ⟨ad, c, K', hK, rfl, rfl⟩
end

theorem hasD_get {ds : List Deferred} {n : Nat} {sl : Slots} {a : Act} {t : Nat} {v : Value} (h : HasSlD ds n sl a) (e : slk sl t = some v) : a.tmps[t]? = some v := h.val t v e
theorem put_get {a : Act} {d : Option Nat} {v x : Value} {k : Nat} (hd : d ≠ some k) (h : (a.put d v).tmps[k]? = some x) : a.tmps[k]? = some x := by
  cases d with
  | none => exact h
  | some d =>
    have : d ≠ k := fun e => hd (by rw [e])
    simpa [Act.put, Array.getElem?_setIfInBounds, this] using h

set_option maxRecDepth 8000 in
set_option maxHeartbeats 1000000 in
theorem Program_lexerr (l : By) (hl : l.length ≤ 9223372036854775807) {W : World} (hG : Gok W) (e : Err) (hlx : lexAll l = .error e) : FnS Tryz.prog 7 [S l] [base W] (prgPost l W) := by
 refine fnd_body Tryz.func7 rfl rfl rfl ?_
 intro W0 R
 simp only [List.zipIdx_cons, List.zipIdx_nil, List.map_cons, List.map_nil, Nat.zero_add, Nat.reduceAdd, List.cons_append, List.nil_append]
 refine g_seq ?_
 refine g_region ?_
 refine gl_n rfl (o_alloc) ?_
 rintro _ _ ⟨b2, rfl, rfl⟩
 refine gl_n rfl (o_alloc) ?_
 rintro _ _ ⟨b3, rfl, rfl⟩
 refine gl_nil ?_
 refine ge_then ?_
 refine g_seq ?_
 refine g_region ?_
 refine gl_v rfl (o_move rfl) ?_
 refine gl_c rfl (o_call rfl (All_err hG l hl e hlx) pA) ?_
 rintro _ R ⟨_, ⟨bq, rfl, rfl⟩, rfl⟩
 try simp only [List.cons_append, List.nil_append]
 refine gl_v rfl (o_move rfl) ?_
 refine gl_v rfl (o_extract rfl rfl) ?_
 refine gl_v rfl (o_extract rfl rfl) ?_
 refine gl_v rfl (o_assign rfl) ?_
 first | refine gl_u (o_store rfl rfl rfl rfl) ?_ | refine gl_u (o_storeS rfl rfl rfl (by first | assumption | omega | simp)) ?_
 refine gl_nil ?_
 refine ge_then ?_
 refine g_seq ?_
 refine g_seq ?_
 refine g_region ?_
 first | refine gl_v rfl (o_load rfl rfl) ?_ | refine gl_v rfl (o_loadS rfl rfl) ?_ | refine gl_v rfl (o_loadC rfl) ?_
 refine gl_v rfl (o_is (c := true) (by rfl) (o_neqIn rfl)) ?_
 refine gl_nil ?_
 refine ge_then ?_
 refine g_cond_true rfl ?_
 refine g_seq ?_
 refine g_draw [2, 3] [2] [(0, .loc), (1, .stab), (2, .eff), (3, .eff)] [cel b3 27 [errV bq]] mixed (by kernel_rfl) ?_
 refine go_v rfl .none rfl (o_build rfl rfl) ?_
 first | refine go_vs rfl .none rfl (o_load rfl rfl) (tO) ?_ | refine go_vs rfl .none rfl (o_loadS rfl rfl) (tO) ?_ | refine go_vs rfl .none rfl (o_loadC rfl) (tO) ?_
 first | refine go_u rfl .none (o_storeSA rfl rfl rfl rfl (by simp; omega) (by simp)) (fun _ => (tO)) ?_ | refine go_u rfl .none (o_storeA rfl rfl rfl rfl rfl) (fun _ => (tO)) ?_
 first | refine go_u rfl .none (o_store rfl rfl rfl rfl) (fun hG => absurd hG (by decide)) ?_ | refine go_u rfl .none (o_storeS rfl rfl rfl (by first | assumption | omega | simp)) (fun hG => absurd hG (by decide)) ?_
 refine go_nil ?_
 refine ge_then ?_
 refine g_ret ?_
 refine ge_then_ret ?_
 exact ge_d0 (.inl rfl) (fq_ret (.inl rfl) (fun a w hs s => res_prg (hs.val _ _ rfl) (hs.val _ _ rfl) s) [errM bq e, base W] (by unfold prgPost progP; rw [hlx]; exact ⟨bq, rfl, rfl⟩) (tO))

theorem tb_of {l : By} {T : List Tk} (h : lexAll l = .ok T) : TB T := fun t ht => by
  have := lexAll_ok h
  have h1 := (pl_sum _ _ _ (lex_pl 0 l T this.2)).1
  have h2 : t.text.length ≤ sumL T := by
    clear h1 h this
    induction T with
    | nil => cases ht
    | cons x X ih =>
      show t.text.length ≤ x.text.length + sumL X
      rcases List.mem_cons.1 ht with rfl | hh
      · omega
      · have := ih hh; omega
  omega
theorem len_of {l : By} {T : List Tk} (h : lexAll l = .ok T) : T.length ≤ 16384 := by
  have := lexAll_ok h
  have h1 := pl_sum _ _ _ (lex_pl 0 l T this.2)
  omega
theorem rdo_own' {a : Option Addr} {c n : Nat} {e : TypeId} {sz : Nat} {xs : List Value} {As R : List Assn} (p : Sel (own (.slice a n c) e sz n xs) As R) : ∀ h, Sat As h → Sat (rdo a c n xs :: R) h := fun h s => rdo_own h (p.to s)
abbrev exc (n : Nat) (p : PR (List Knd)) : Except Err (List Knd) := match p with | .ok K _ => Except.ok K | .bad r => .error (fltOf n r)
theorem knds_cons {f : Nat} {A : List Knd} {X : List Tk} (hne : X ≠ []) : kndsP (f + 1) A X = (mustP [wKind] X).bind fun _ r => (kndP r).bind fun k r2 => kndsP f (A ++ [k]) r2 := by
  show (if X.isEmpty then _ else _) = _
  rw [if_neg (by simpa using hne)]
theorem knds_must {n f : Nat} {A : List Knd} {X rx : List Tk} (hne : X ≠ []) (h : mustP [wKind] X = .bad rx) : (match kndsP (f + 1) A X with | .ok K _ => Except.ok K | .bad r => .error (fltOf n r)) = .error (fltOf n rx) := by
  rw [knds_cons hne, h]; rfl
theorem knds_knd {n f : Nat} {A : List Knd} {X r1 rx : List Tk} (hne : X ≠ []) (h1 : mustP [wKind] X = .ok () r1) (h : kndP r1 = .bad rx) : (match kndsP (f + 1) A X with | .ok K _ => Except.ok K | .bad r => .error (fltOf n r)) = .error (fltOf n rx) := by
  rw [knds_cons hne, h1, bind_ok, h]; rfl
theorem knds_step {f : Nat} {A : List Knd} {X r1 r : List Tk} {k : Knd} (hne : X ≠ []) (h1 : mustP [wKind] X = .ok () r1) (h : kndP r1 = .ok k r) : kndsP (f + 1) A X = kndsP f (A ++ [k]) r := by
  rw [knds_cons hne, h1, bind_ok, h, bind_ok]
theorem knds_nil {n f : Nat} {A : List Knd} : (match kndsP (f + 1) A [] with | .ok K _ => Except.ok K | .bad r => .error (fltOf n r)) = .ok A := rfl

set_option maxRecDepth 8000 in
set_option maxHeartbeats 2000000 in
theorem Program_lexok (l : By) (hl : l.length ≤ 9223372036854775807) {W : World} (hG : Gok W) (X0 : List Tk) (hlx : lexAll l = .ok X0) : FnS Tryz.prog 7 [S l] [base W] (prgPost l W) := by
 refine fnd_body Tryz.func7 rfl rfl rfl ?_
 intro W0 R
 simp only [List.zipIdx_cons, List.zipIdx_nil, List.map_cons, List.map_nil, Nat.zero_add, Nat.reduceAdd, List.cons_append, List.nil_append]
 have hTB0 : TB X0 := tb_of hlx
 have hX0l := len_of hlx
 have hPP : progP l = (match kndsP (X0.length + 1) [] X0 with | .ok K _ => Except.ok K | .bad r => .error (fltOf l.length r)) := by unfold progP; rw [hlx]; rfl
 refine g_seq ?_
 refine g_region ?_
 refine gl_n rfl (o_alloc) ?_
 rintro _ _ ⟨b2, rfl, rfl⟩
 refine gl_n rfl (o_alloc) ?_
 rintro _ _ ⟨b3, rfl, rfl⟩
 refine gl_nil ?_
 refine ge_then ?_
 refine g_seq ?_
 refine g_region ?_
 refine gl_v rfl (o_move rfl) ?_
 refine gl_c rfl (o_call rfl (All_ok hG l X0 hlx) pA) ?_
 rintro _ R ⟨_, ⟨ta, tc, rfl, rfl⟩, rfl⟩
 try simp only [List.cons_append, List.nil_append]
 refine gl_v rfl (o_move rfl) ?_
 refine gl_v rfl (o_extract rfl rfl) ?_
 refine gl_v rfl (o_extract rfl rfl) ?_
 refine gl_v rfl (o_assign rfl) ?_
 first | refine gl_u (o_store rfl rfl rfl rfl) ?_ | refine gl_u (o_storeS rfl rfl rfl (by first | assumption | omega | simp)) ?_
 refine gl_nil ?_
 refine ge_then ?_
 refine g_seq ?_
 refine g_seq ?_
 refine g_region ?_
 first | refine gl_v rfl (o_load rfl rfl) ?_ | refine gl_v rfl (o_loadS rfl rfl) ?_ | refine gl_v rfl (o_loadC rfl) ?_
 refine gl_v rfl (o_is (c := false) (by rfl) (o_neqnI rfl)) ?_
 refine gl_nil ?_
 refine ge_then ?_
 refine g_cond_false rfl ?_
 refine g_skip ?_
 refine ge_then ?_
 refine g_seq ?_
 refine g_region ?_
 refine gl_v rfl (o_func rfl rfl) ?_
 refine gl_defer (cap := [ptr b2 0, ptr b3 0]) rfl ?_
 refine DD.gl_nil ?_
 refine DD.ge_then ?_
 refine DD.g_seq ?_
 refine DD.g_imp (rdo_own' sE) ?_
 refine DD.g_region ?_
 refine DD.gl_v rfl (o_move rfl) ?_
 refine DD.gl_v rfl (o_move rfl) ?_
 refine DD.gl_v rfl (o_lens rfl) ?_
 refine DD.gl_v rfl (o_build rfl rfl) ?_
 refine DD.gl_n rfl (o_boxA rfl) ?_
 rintro _ _ ⟨b20, rfl, rfl⟩
 refine DD.gl_v rfl (o_assign rfl) ?_
 refine DD.gl_nil ?_
 refine DD.ge_imp (rdr_shut (p := b20) (T := X0) (n := l.length) ta tc sE sE) ?_
 refine DD.ge_then ?_
 refine DD.g_seq ?_
 refine DD.g_block ?_
 refine DD.g_loop (ι := List Knd × List Tk × Option Addr × Nat) (fun x => (∃ f, x.2.1.length < f ∧ kndsP f (strip x.1) x.2.1 = kndsP (X0.length + 1) [] X0) ∧ x.1.length + x.2.1.length ≤ X0.length ∧ Suf x.2.1 X0) (fun x => [(5, ptr b20 0), (3, ptr b3 0), (2, ptr b2 0)]) (fun x => rdr b20 x.2.1 l.length :: own (.slice x.2.2.1 x.1.length x.2.2.2) 57 5 x.1.length (x.1.flatMap kndC) :: kndsA x.1 :: cel b2 24 [.slice x.2.2.1 x.1.length x.2.2.2] :: cel b3 27 [.nilIface] :: base W :: R) (fun x => x.2.1.length) ([], X0, none, 0) (⟨⟨_, Nat.lt_succ_self _, rfl⟩, by simp, .refl _⟩) (Keep.cons rfl (Keep.cons rfl (Keep.cons rfl (Keep.nil)))) (fun h s => (tO) h (own_nil0 (e := 57) (sz := 5) h (sat_nil (A := kndsA []) (fun r hr => by cases hr) h s))) ?_
 rintro ⟨Ks, X, ka, kc⟩ ⟨⟨f, hf, hE⟩, hlen, hsX⟩
 replace hf : X.length < f := hf
 replace hE : kndsP f (strip Ks) X = kndsP (X0.length + 1) [] X0 := hE
 replace hlen : Ks.length + X.length ≤ X0.length := hlen
 replace hsX : Suf X X0 := hsX
 obtain ⟨f, rfl⟩ : ∃ g, f = g + 1 := ⟨f - 1, by omega⟩
 dsimp only
 refine DD.g_seq ?_
 refine DD.g_seq ?_
 refine DD.g_imp (fun h s => Sel.to (A := rdr b20 X l.length) sE s) ?_
 refine DD.g_open .head ?_
 rintro ⟨xa, xc⟩ -
 simp only [List.cons_append, List.nil_append]
 refine DD.g_region ?_
 refine DD.gl_v rfl (o_move rfl) ?_
 refine DD.gl_v rfl (o_nil rfl) ?_
 first | refine DD.gl_v rfl (o_fldS rfl) ?_ | refine DD.gl_v rfl (o_fld rfl) ?_
 first | refine DD.gl_v rfl (o_load rfl rfl) ?_ | refine DD.gl_v rfl (o_loadS rfl rfl) ?_ | refine DD.gl_v rfl (o_loadC rfl) ?_
 first | refine DD.gl_v rfl (o_len rfl) ?_ | refine DD.gl_v rfl (o_lenL rfl) ?_
 refine DD.gl_v rfl (o_gtr rfl rfl) ?_
 refine DD.gl_nil ?_
 refine DD.ge_imp (rdr_shut (p := b20) (T := X) (n := l.length) xa xc sE sE) ?_
 refine DD.ge_then ?_
 refine DD.g_cond rfl (fun hc1 => ?_) (fun hc1 => ?_)
 ·
  replace hc1 := hs_ hc1
  have hne : X ≠ [] := by rintro rfl; simp at *
  refine DD.g_skip ?_
  refine DD.ge_then ?_
  refine DD.g_block ?_
  refine DD.g_seq ?_
  refine DD.g_region ?_
  refine DD.gl_v rfl (o_move rfl) ?_
  first | refine DD.gl_n rfl (o_buildS1 rfl rfl rfl) ?_ | refine DD.gl_n rfl (o_buildS1A rfl rfl rfl rfl) ?_ | refine DD.gl_n rfl (o_buildS rfl rfl rfl rfl) ?_
  rintro _ _ ⟨b28, rfl, rfl⟩
  refine DD.gl_cx rfl (o_callX rfl (must1 b20 wKind b28 X l.length) pA) ?_ ?_
  ·
   rintro ch _ ⟨_, ⟨rx, bx, hbad, rfl, rfl⟩, rfl⟩
   try simp only [List.cons_append, List.nil_append]
   exact fun a w hs s => prg_pan (e := fltOf l.length rx) (by rw [hPP, ← hE]; exact knds_must hne hbad) hs.dfr (hasD_get hs rfl) (hasD_get hs rfl) (s.imp (tO))
  rintro _ R ⟨_, ⟨rfl, r1, hr1, rfl⟩, rfl⟩
  try simp only [List.cons_append, List.nil_append]
  have hs1 : Suf r1 X0 := (lv_of (lv_must _ _) hr1).trans hsX
  refine DD.gl_nil ?_
  refine DD.ge_then ?_
  intro aa ww hss sss
  refine DX.g_drawD (fun a => a.defers = prgD b2 b3 ∧ a.tmps[2]? = some (ptr b2 0) ∧ a.tmps[3]? = some (ptr b3 0)) (fun ch w => ∃ bx e xx yy, progP l = .error e ∧ ch = fltC bx ∧ St W0 (errM bx e :: cel b2 24 [xx] :: cel b3 27 [yy] :: base W :: R) w) [3, 4, 5, 7] [3, 4] [(0, .stab), (1, .stab), (2, .loc), (3, .eff), (4, .eff), (5, .eff), (6, .loc), (7, .eff)] [cel b2 24 [.slice ka Ks.length kc]] mixed (by kernel_rfl) (fun o ho a v h => ?_) (fun ch a w hp ⟨bx, e, xx, yy, he, hc, s⟩ => by rw [hc]; exact prg_pan he hp.1 hp.2.1 hp.2.2 s) ?_ hss sss
  · have hne2 : o.dst ≠ some 2 ∧ o.dst ≠ some 3 := by
      have := List.all_eq_true.1 (show (List.all _ fun o : Oper => decide (o.dst ≠ some 2) && decide (o.dst ≠ some 3)) = true from rfl) o ho
      simpa using this
    exact ⟨by rw [← DX.defers_put a o.dst v]; exact h.1, put_get hne2.1 h.2.1, put_get hne2.2 h.2.2⟩
  first | refine DX.go_vs rfl .none rfl (o_fldS rfl) (tO) ?_ | refine DX.go_vs rfl .none rfl (o_fld rfl) (tO) ?_
  first | refine DX.go_vs rfl .none rfl (o_load rfl rfl) (tO) ?_ | refine DX.go_vs rfl .none rfl (o_loadS rfl rfl) (tO) ?_ | refine DX.go_vs rfl .none rfl (o_loadC rfl) (tO) ?_
  refine DX.go_v rfl .none rfl (o_move rfl) ?_
  refine DX.go_cx rfl .none rfl (o_callX rfl (kind_spec b20 l.length r1 (hTB0.suf hs1) (by have := hs1.1; omega)) pA) (fun a hs => ⟨hs.dfr, hasD_get hs rfl, hasD_get hs rfl⟩) ?_ ?_
  ·
   rintro ch _ wx ⟨_, ⟨rx, bx, hbad, rfl, rfl⟩, rfl⟩ sx
   exact ⟨bx, fltOf l.length rx, _, _, by rw [hPP, ← hE]; exact knds_knd hne hr1 hbad, rfl, sx.imp (tO)⟩
  rintro _ R ⟨_, ⟨w, r, hw, rfl, rfl⟩, rfl⟩
  try simp only [List.cons_append, List.nil_append]
  refine ⟨(fun _ => (tO)), ?_⟩
  first | refine DX.go_n rfl .none rfl (o_buildS1 rfl rfl rfl) ?_ | refine DX.go_n rfl .none rfl (o_buildS1A rfl rfl rfl rfl) ?_ | refine DX.go_n rfl .none rfl (o_buildS rfl rfl rfl rfl) ?_
  rintro _ _ ⟨b34, rfl, rfl⟩
  refine ⟨(fun _ => (tO)), ?_⟩
  refine DX.go_n rfl .none rfl (o_append rfl rfl pA rfl rfl rfl (by omega) (by unfold maxLen; omega)) ?_
  rintro _ _ ⟨a35, c35, rfl, rfl⟩
  rw [len_snoc Ks w, flat_snoc' kndC Ks w]
  refine ⟨(fun hG => absurd hG (by decide)), ?_⟩
  first | refine DX.go_v rfl .none rfl (o_fldS rfl) ?_ | refine DX.go_v rfl .none rfl (o_fld rfl) ?_
  first | refine DX.go_u rfl .none (o_store rfl rfl rfl rfl) (fun hG => absurd hG (by decide)) ?_ | refine DX.go_u rfl .none (o_storeS rfl rfl rfl (by first | assumption | omega | simp)) (fun hG => absurd hG (by decide)) ?_
  refine DX.go_nil ?_
  refine DD.ge_block ?_
  refine DD.ge_imp (fun h s => knds_push (r := w) (R := Ks) h (Part.to (m := [kndA w, kndsA Ks]) pA s)) ?_
  have hq0 := lt_of (lt_must (w := wKind) (ws := []) X) hr1
  have hq1 := lv_of (lv_knd r1) hw
  have hq2 := hq1.1
  refine DD.ge_round (Ks ++ [w], r, a35, c35) ⟨⟨f, by show r.length < f; omega, by rw [← hE, strip_app]; exact (knds_step hne hr1 hw).symm⟩, by show (Ks ++ [w]).length + r.length ≤ X0.length; rw [List.length_append, List.length_singleton]; omega, hq1.trans hs1⟩ (by show r.length < X.length; omega) (Keep.cons rfl (Keep.cons rfl (Keep.cons rfl (Keep.nil)))) (tO)
 ·
  replace hc1 := hs_ hc1
  obtain rfl : X = [] := List.eq_nil_of_length_eq_zero (by omega)
  refine DD.g_exit ?_
  refine DD.ge_then_exit ?_
  refine DD.ge_then_exit ?_
  refine DD.ge_block_exit ?_
  refine DD.ge_then ?_
  refine DD.g_seq ?_
  refine DD.g_region ?_
  first | refine DD.gl_v rfl (o_loadSA rfl rfl rfl) ?_ | refine DD.gl_v rfl (o_loadA rfl rfl rfl) ?_
  first | refine DD.gl_u (o_storeSA rfl rfl rfl rfl (by simp; omega) (by simp)) ?_ | refine DD.gl_u (o_storeA rfl rfl rfl rfl rfl) ?_
  first | refine DD.gl_u (o_store rfl rfl rfl rfl) ?_ | refine DD.gl_u (o_storeS rfl rfl rfl (by first | assumption | omega | simp)) ?_
  refine DD.gl_nil ?_
  refine DD.ge_then ?_
  refine DD.g_ret ?_
  exact fun a w hs s => prg_ret (K := strip Ks) (K' := Ks) (ad := ka) (c := kc) (by rw [hPP, ← hE, knds_nil]) rfl hs.dfr (hasD_get hs rfl) (hasD_get hs rfl) (s.imp (fun h s => (tO) h (mk_prg (a := ka) (c := kc) (e := 57) (K := Ks) (F := cel b2 24 [.slice ka Ks.length kc] :: cel b3 27 [.nilIface] :: base W :: R) (by omega) h ((tO) h s))))

theorem Program_spec (l : By) (hl : l.length ≤ 9223372036854775807) {W : World} (hG : Gok W)  : FnS Tryz.prog 7 [S l] [base W] (prgPost l W) := by
  cases h : lexAll l with
  | error e => exact Program_lexerr l hl hG e h
  | ok X0 => exact Program_lexok l hl hG X0 h

end Go.Proofs.YtgmdlhlmffdbhaaGreatDoor.L
