/-
  Script: numbers as text; words gathered. Own work, printed in part by a program of its own.
-/
import Derived.Test.YtcglaiacohkaeaaDoorScrRv
import Derived.Sort.Row
set_option linter.unusedSimpArgs false
set_option linter.unusedVariables false
set_option linter.unusedSectionVars false
namespace Go.Proofs.YtcglaiacohkaeaaDoor.L
open Go.L Go.L.Lx Go.L.Pa Go.L.Sc Go.Sort
abbrev u8E : UInt8 → Value := fun b => Value.int .u8 (b.toNat : Int)
theorem putRowE {W0 w : World} {b : Nat} {e : TypeId} {xs sp : List Value} {R : List Assn} (s : St W0 (pts b (.cells (xs ++ sp).toArray e (0, 0)) :: R) w) (d : Array UInt8) (hl : d.size = xs.length) :
    St W0 (pts b (.cells (d.toList.map u8E ++ sp).toArray e (0, 0)) :: R) (Go.Sort.putRow u8E w b 0 d) := by
  have hb := s.heap (b := b)
  refine ⟨s.os, s.tape, s.output, by have := s.size; simpa [Go.Sort.putRow, mapBlock] using this, ?_⟩
  have e1 : putCells u8E 0 d (xs ++ sp).toArray = (d.toList.map u8E ++ sp).toArray := by
    apply Array.ext_getElem?
    intro j
    simp only [putCells, Array.getElem?_mapIdx, List.getElem?_toArray, Nat.zero_le, true_and, Nat.zero_add, Nat.sub_zero]
    by_cases h : j < d.size
    · rw [List.getElem?_append_left (by omega), List.getElem?_append_left (by simpa using h), List.getElem?_eq_getElem (by omega), List.getElem?_eq_getElem (by simpa using h)]
      simp only [Option.map_some, if_pos h]
      rw [getElem!_pos _ j h]; simp
    · rw [List.getElem?_append_right (by omega), List.getElem?_append_right (by simp; omega), ← hl]
      simp only [List.length_map, Array.length_toList]
      cases sp[j - d.size]? with
      | none => rfl
      | some v => simp only [Option.map_some, if_neg h]
  have e2 : hpOf (Go.Sort.putRow u8E w b 0 d) = upd (hpOf w) b (.cells (d.toList.map u8E ++ sp).toArray e (0, 0)) := by
    unfold Go.Sort.putRow mapBlock
    rw [hpOf_modify _ (o := .cells (xs ++ sp).toArray e (0, 0)) hb]
    simp only [onCells, e1]
  rw [e2]
  exact Owns.set (b := b) (o := .cells (xs ++ sp).toArray e (0, 0)) (.cells (d.toList.map u8E ++ sp).toArray e (0, 0)) s.sat
section
variable {P : Program} {W0 w : World} {n : Nat} {sl : Slots} {As : List Assn} {ty : TypeId}
theorem o_slArr {t e : TypeId} {x y : Operand} {b i len sz : Nat} {kk : IntKind} (h1 : P.underlying t = some (.array len e)) (h3 : ∃ i, P.info? e = some i ∧ i.size = sz) (hx : opv sl x = some (ptr b 0)) (hy : opv sl y = some (.int kk (i : Int))) (hi : i ≤ len) : OV P W0 n (.slice t x none (some y) none) ty sl As (.slice (some ⟨b, 0, none⟩) i len) := fun a' w d pos aft g hs _ => by
  obtain ⟨inf, g1, g2⟩ := h3
  simp only [execOp, Option.map_some, Option.map_none, hs.eval hx, hs.eval hy]
  simp [Instr.sliceAt, rU h1, rS g1, Instr.sureAddr, asAddr, Instr.sliceBounds, Instr.sliceBound, asIntOf, hi, Addr.add]
theorem rds_pre {b k cap : Nat} {e : TypeId} {xs sp : List Value} {r : List Assn} : RdS (.slice (some ⟨b, 0, none⟩) k cap) (cel b e (xs ++ sp) :: r) k xs where
  get := fun ⟨_, _, _, e1, ha, _⟩ => e1 ▸ .inr ⟨b, 0, none, cap, rfl, fun _ => rfl, fun j x hx => ⟨rfl, (xs ++ sp).toArray, e, (0, 0), join_some ha, by
    have hj := (List.getElem?_eq_some_iff.1 hx).1
    rw [Nat.zero_add, List.getElem?_toArray, List.getElem?_append_left hj]; exact hx⟩⟩
end
theorem Sm_spec (i : Nat) (h : i < 100) : FnS Tryd.prog 67 [I64 i] [] (fun u Bs => u = S (dec i) ∧ Bs = []) := by
  intro W0 R w s
  exact (Any.internal_strconv_small Tryd.smTm i h w).mono fun e w' ⟨he, hw⟩ => ⟨_, [], he, ⟨by rw [dec_kit], rfl⟩, hw ▸ s⟩
theorem Nd_spec {W : World} (hG : Gok W) (u : Nat) (h1 : 1 ≤ u) (h2 : u < 18446744073709551616) : FnS Tryd.prog 68 [U64 u] [base W] (fun r Bs => r = I64 (Lib.nDigits u) ∧ Bs = [base W]) := by
  intro W0 R w s
  exact (Any.internal_strconv_numDigits { Tryd.itTm with } u h1 h2 w (tab_base hG.tb s)).mono fun e w' ⟨he, hw⟩ => ⟨_, [base W], he, ⟨rfl, rfl⟩, hw ▸ s⟩
theorem Fb_spec (b T cap : Nat) (u : Nat) (h0 : 1 ≤ u) (h2 : u < 18446744073709551616) : FnS Tryd.prog 69 [.slice (some ⟨b, 0, none⟩) (Lib.nDigits u) cap, U64 u] [cel b T (List.replicate 24 (u8E 0))] (fun r Bs => r = .tuple #[] ∧ ∃ sp, Bs = [cel b T ((dec u).map u8E ++ sp)]) := by
  intro W0 R w s
  rw [List.singleton_append] at s
  have hn : Lib.nDigits u ≤ 20 := by have := Lib.numDigits_eq u h0 h2; split at this <;> omega
  have e0 : (List.replicate 24 (u8E 0)) = List.replicate (Lib.nDigits u) (u8E 0) ++ List.replicate (24 - Lib.nDigits u) (u8E 0) := by
    rw [List.replicate_append_replicate]; congr 1; omega
  rw [e0] at s
  have hb := s.heap (b := b)
  have hH : Holds u8E w b 0 (Array.replicate (Lib.nDigits u) (0 : UInt8)) := fun j hj => by
    rw [Array.size_replicate] at hj
    have hj2 : (Array.replicate (Lib.nDigits u) (0 : UInt8))[j]! = 0 := by rw [getElem!_pos _ j (by simpa using hj)]; simp
    refine ⟨?_, ?_⟩
    · rw [hj2]
      simp [World.cell?, hb]
      rw [Array.getElem?_replicate, if_pos (by omega)]
    · simp [World.frozen?, hb]
  have hf := Any.internal_strconv_formatBase10 Tryd.fbTm b 0 cap u (Array.replicate (Lib.nDigits u) 0) w hH (by rw [Array.size_replicate]; exact Lib.lt_pow_nDigits u) h2 (by rw [Array.size_replicate]; omega)
  rw [Array.size_replicate] at hf
  refine hf.mono fun e w' ⟨he, k, v', dk, hw, hF⟩ => ?_
  have hd : dk.toList = dec u := by
    rw [← dec_kit]
    apply List.ext_getElem
    · rw [Lib.decDigits_length, Array.length_toList, hF.size]
    · intro j hj1 hj2
      rw [Lib.row_is_numeral hF j hj2, getElem!_pos dk j (by simpa using hj1)]; simp
  have s2 := putRowE s dk (by rw [hF.size, List.length_replicate])
  rw [hd] at s2
  refine ⟨_, [cel b T ((dec u).map u8E ++ List.replicate (24 - Lib.nDigits u) (u8E 0))], he, ⟨rfl, _, rfl⟩, ?_⟩
  rw [hw]
  exact ⟨s2.os, s2.tape, s2.output, s2.size, s2.sat⟩

set_option maxRecDepth 8000 in
set_option maxHeartbeats 1000000 in
theorem Fui_spec {W : World} (hG : Gok W) (u : Nat) (h2 : u < 18446744073709551616) : FnS Tryd.prog 54 [U64 u, I64 10] [base W] (fun r Bs => r = S (dec u) ∧ Bs = [base W]) := by
 refine fn_body Tryd.func54 rfl rfl rfl ?_
 intro W0 R
 simp only [List.zipIdx_cons, List.zipIdx_nil, List.map_cons, List.map_nil, Nat.zero_add, Nat.reduceAdd, List.cons_append, List.nil_append]
 refine g_seq ?_
 refine g_region ?_
 refine gl_v rfl (o_assign rfl) ?_
 refine gl_nil ?_
 refine ge_then ?_
 refine g_seq ?_
 refine g_seq ?_
 refine g_region ?_
 refine gl_v rfl (o_move rfl) ?_
 refine gl_v rfl (o_is (c := true) (by rfl) (o_eql rfl rfl)) ?_
 refine gl_nil ?_
 refine ge_then ?_
 refine g_cond_true rfl ?_
 refine g_seq ?_
 refine g_seq ?_
 refine g_region ?_
 refine gl_v rfl (o_move rfl) ?_
 refine gl_v rfl (o_lss rfl rfl) ?_
 refine gl_nil ?_
 refine ge_then ?_
 refine g_cond rfl (fun hc1 => ?_) (fun hc1 => ?_)
 ·
  replace hc1 := hs_ hc1
  refine g_seq ?_
  refine g_region ?_
  refine gl_v rfl (o_move rfl) ?_
  refine gl_v rfl (o_convR _ (by first | exact wr_i64 (by omega) | rfl) rfl) ?_
  refine gl_c rfl (o_call rfl (Sm_spec u (by omega)) pA) ?_
  rintro _ R ⟨_, ⟨rfl, rfl⟩, rfl⟩
  try simp only [List.cons_append, List.nil_append]
  refine gl_v rfl (o_assign rfl) ?_
  refine gl_nil ?_
  refine ge_then ?_
  refine g_ret ?_
  refine ge_then_ret ?_
  refine ge_then_ret ?_
  refine ret1 (.inl rfl) rfl rfl [base W] (⟨rfl, rfl⟩) (tO)
 ·
  replace hc1 := hs_ hc1
  have h1 : 1 ≤ u := by omega
  have hn : Lib.nDigits u ≤ 20 := by have := Lib.numDigits_eq u h1 h2; split at this <;> omega
  refine g_skip ?_
  refine ge_then ?_
  refine g_seq ?_
  refine g_region ?_
  refine gl_n rfl (o_alloc) ?_
  rintro _ _ ⟨b5, rfl, rfl⟩
  refine gl_nil ?_
  refine ge_then ?_
  refine g_seq ?_
  refine g_region ?_
  refine gl_v rfl (o_move rfl) ?_
  refine gl_c rfl (o_call rfl (Nd_spec hG u h1 h2) pA) ?_
  rintro _ R ⟨_, ⟨rfl, rfl⟩, rfl⟩
  try simp only [List.cons_append, List.nil_append]
  refine gl_v rfl (o_assign rfl) ?_
  refine gl_nil ?_
  refine ge_then ?_
  refine g_seq ?_
  refine g_region ?_
  refine gl_v rfl (o_move rfl) ?_
  refine gl_v rfl (o_slArr Tryd.underlying103 (let ⟨i, a, _, c, _⟩ := info_of inf5; ⟨i, a, c⟩) rfl rfl (by omega)) ?_
  refine gl_v rfl (o_move rfl) ?_
  refine gl_c rfl (o_call rfl (Fb_spec b5 103 24 u h1 h2) pA) ?_
  rintro _ R ⟨_, ⟨rfl, sp, rfl⟩, rfl⟩
  try simp only [List.cons_append, List.nil_append]
  refine gl_nil ?_
  refine ge_then ?_
  refine g_seq ?_
  refine g_region ?_
  refine gl_v rfl (o_move rfl) ?_
  refine gl_v rfl (o_slArr Tryd.underlying103 (let ⟨i, a, _, c, _⟩ := info_of inf5; ⟨i, a, c⟩) rfl rfl (by omega)) ?_
  refine gl_v rfl (o_bstr (r := rds_pre) (dec u) rfl rfl (by rw [← dec_kit, Lib.decDigits_length])) ?_
  refine gl_v rfl (o_assign rfl) ?_
  refine gl_nil ?_
  refine ge_then ?_
  refine g_ret ?_
  refine ge_then_ret ?_
  refine ret1 (.inl rfl) rfl rfl [base W] (⟨rfl, rfl⟩) (tO)

set_option maxRecDepth 8000 in
set_option maxHeartbeats 1000000 in
theorem Fu_spec {W : World} (hG : Gok W) (u : Nat) (h2 : u < 18446744073709551616) : FnS Tryd.prog 36 [U64 u, I64 10] [base W] (fun r Bs => r = S (dec u) ∧ Bs = [base W]) := by
 refine fn_body Tryd.func36 rfl rfl rfl ?_
 intro W0 R
 simp only [List.zipIdx_cons, List.zipIdx_nil, List.map_cons, List.map_nil, Nat.zero_add, Nat.reduceAdd, List.cons_append, List.nil_append]
 refine g_seq ?_
 refine g_region ?_
 refine gl_v rfl (o_assign rfl) ?_
 refine gl_nil ?_
 refine ge_then ?_
 refine g_seq ?_
 refine g_region ?_
 refine gl_v rfl (o_move rfl) ?_
 refine gl_v rfl (o_move rfl) ?_
 refine gl_c rfl (o_call rfl (Fui_spec hG u h2) pA) ?_
 rintro _ R ⟨_, ⟨rfl, rfl⟩, rfl⟩
 try simp only [List.cons_append, List.nil_append]
 refine gl_v rfl (o_assign rfl) ?_
 refine gl_nil ?_
 refine ge_then ?_
 refine g_ret ?_
 refine ret1 (.inl rfl) rfl rfl [base W] (⟨rfl, rfl⟩) (tO)


def wl (p : Nat) (ws : List By) : Assn := exA (ι := Option Addr × Nat) (fun _ => True) (fun x => [cel p 63 [.slice x.1 ws.length x.2], own (.slice x.1 ws.length x.2) 9 1 ws.length (wsC ws)])
theorem wl_close {p : Nat} {ws : List By} {As R : List Assn} (a : Option Addr) (c : Nat) (h : ∀ h, Sat As h → Sat (cel p 63 [.slice a ws.length c] :: own (.slice a ws.length c) 9 1 ws.length (wsC ws) :: R) h) : ∀ h, Sat As h → Sat (wl p ws :: R) h := ex_close (ι := Option Addr × Nat) (φ := fun _ => True) (l := fun x => [cel p 63 [.slice x.1 ws.length x.2], own (.slice x.1 ws.length x.2) 9 1 ws.length (wsC ws)]) (a, c) trivial h
theorem wsC_len (ws : List By) : (wsC ws).length = ws.length * 1 := by simp
theorem wsC_one (ws : List By) : (wsC ws).all Value.oneCell' = true := by simp [wsC, Value.oneCell']
abbrev isC (ns : List Int) : List Value := ns.map fun n => I64 n

set_option maxRecDepth 8000 in
set_option maxHeartbeats 1000000 in
theorem num_spec {W : World} (hG : Gok W) (p : Nat) (ws : List By) (v : Value) (A : Assn) (ns : List Int) (hr : ∀ n ∈ ns, -9223372036854775808 ≤ n ∧ n ≤ 9223372036854775807) [RdA v A ns.length (isC ns)] (h1 : ws.length + ns.length ≤ 1000) : FnS Tryd.prog 35 [v, ptr p 0] [wl p ws, A, base W] (fun u Bs => u = .tuple #[] ∧ Bs = [wl p (ws ++ ns.map itoaB), A, base W]) := by
 refine fn_body Tryd.func35 rfl rfl rfl ?_
 intro W0 R
 simp only [List.zipIdx_cons, List.zipIdx_nil, List.map_cons, List.map_nil, Nat.zero_add, Nat.reduceAdd, List.cons_append, List.nil_append]
 refine g_seq ?_
 refine g_region ?_
 refine gl_v rfl (o_move rfl) ?_
 first | refine gl_v rfl (o_len rfl) ?_ | refine gl_v rfl (o_lenL rfl) ?_
 refine gl_v rfl (o_move rfl) ?_
 refine gl_nil ?_
 refine ge_then ?_
 refine g_block ?_
 refine g_loop (ι := Nat) (fun j => j ≤ ns.length) (fun j => [(7, I64 j), (6, I64 ns.length), (5, v), (1, ptr p 0)]) (fun j => wl p (ws ++ (ns.take j).map itoaB) :: A :: base W :: R) (fun j => ns.length - j) 0 (Nat.zero_le _) (Keep.cons rfl (Keep.cons rfl (Keep.cons rfl (Keep.cons rfl (Keep.nil))))) (by rw [List.take_zero, List.map_nil, List.append_nil]; exact (tO)) ?_
 rintro j hj
 refine g_seq ?_
 refine g_region ?_
 refine gl_v rfl (o_lss rfl rfl) ?_
 refine gl_nil ?_
 refine ge_then ?_
 refine g_seq ?_
 refine g_cond rfl (fun hc1 => ?_) (fun hc1 => ?_)
 ·
  replace hc1 := hs_ hc1
  have hj1 : j < ns.length := by omega
  obtain ⟨n, hn⟩ : ∃ n, ns[j]? = some n := ⟨_, List.getElem?_eq_getElem hj1⟩
  have hnr := hr n (List.mem_of_getElem? hn)
  have htk : ns.take (j + 1) = ns.take j ++ [n] := by rw [List.take_add_one, hn]; rfl
  have hwl : (ws ++ (ns.take j).map itoaB).length = ws.length + j := by rw [List.length_append, List.length_map, List.length_take]; omega
  refine g_skip ?_
  refine ge_then ?_
  refine g_seq ?_
  refine g_block ?_
  refine g_seq ?_
  refine g_region ?_
  refine gl_v rfl (o_idxS rfl rfl (by first | assumption | omega)) ?_
  refine gl_v rfl (o_loadS rfl (show (isC ns)[j * 1]? = some (I64 n) by rw [Nat.mul_one, List.getElem?_map, hn]; rfl)) ?_
  refine gl_v rfl (o_assign rfl) ?_
  refine gl_nil ?_
  refine ge_then ?_
  generalize hX : ws ++ (ns.take j).map itoaB = Y at hwl ⊢
  refine g_imp (fun h s => Sel.to (A := wl p (Y)) sE s) ?_
  refine g_open .head ?_
  rintro ⟨wa, wc⟩ -
  simp only [List.cons_append, List.nil_append]
  refine g_draw [2, 3, 4, 5] [2, 3] [(0, .stab), (1, .loc), (2, .eff), (3, .eff), (4, .eff), (5, .eff)] [cel p 63 [.slice wa Y.length wc]] mixed (by kernel_rfl) ?_
  first | refine go_vs rfl .none rfl (o_load rfl rfl) (tO) ?_ | refine go_vs rfl .none rfl (o_loadS rfl rfl) (tO) ?_ | refine go_vs rfl .none rfl (o_loadC rfl) (tO) ?_
  refine go_v rfl .none rfl (o_move rfl) ?_
  refine go_c rfl .none rfl (o_call rfl (Itoa_spec hG n hnr.1 hnr.2) pA) ?_
  rintro _ R ⟨_, ⟨rfl, rfl⟩, rfl⟩
  try simp only [List.cons_append, List.nil_append]
  refine ⟨(fun _ => (tO)), ?_⟩
  first | refine go_n rfl .none rfl (o_buildS1 rfl rfl rfl) ?_ | refine go_n rfl .none rfl (o_buildS1A rfl rfl rfl rfl) ?_ | refine go_n rfl .none rfl (o_buildS rfl rfl rfl rfl) ?_
  rintro _ _ ⟨b14, rfl, rfl⟩
  refine ⟨(fun _ => (tO)), ?_⟩
  refine go_n rfl .none rfl (o_append (sz := 1) (news := [S (itoaB n)]) rfl rfl pA rfl rfl rfl (by omega) (by unfold maxLen; omega)) ?_
  rintro _ _ ⟨a15, c15, rfl, rfl⟩
  rw [show Y.length + 1 = (Y ++ [itoaB n]).length by simp, show wsC Y ++ [S (itoaB n)] = wsC (Y ++ [itoaB n]) by simp]
  refine ⟨(fun hG => absurd hG (by decide)), ?_⟩
  first | refine go_u rfl .none (o_store rfl rfl rfl rfl) (fun hG => absurd hG (by decide)) ?_ | refine go_u rfl .none (o_storeS rfl rfl rfl (by first | assumption | omega | simp)) (fun hG => absurd hG (by decide)) ?_
  refine go_nil ?_
  refine ge_block ?_
  refine ge_then ?_
  refine g_region ?_
  refine gl_v rfl (o_addR ((j + 1 : Nat) : Int) (by rw [wr_i64 (by omega)]; omega) rfl rfl) ?_
  refine gl_v rfl (o_move rfl) ?_
  refine gl_nil ?_
  refine ge_round (j + 1) (by show j + 1 ≤ ns.length; omega) (by show ns.length - (j + 1) < ns.length - j; omega) (Keep.cons rfl (Keep.cons rfl (Keep.cons rfl (Keep.cons rfl (Keep.nil))))) (by rw [htk, List.map_append, ← List.append_assoc, hX]; exact wl_close (ws := Y ++ [itoaB n]) a15 c15 (tO))
 ·
  replace hc1 := hs_ hc1
  obtain rfl : j = ns.length := by omega
  rw [List.take_length]
  refine g_exit ?_
  refine ge_then_exit ?_
  refine ge_then_exit ?_
  refine ge_block_exit ?_
  refine ret0 (.inr rfl) rfl [wl p (ws ++ ns.map itoaB), A, base W] (⟨rfl, rfl⟩) (tO)

end Go.Proofs.YtcglaiacohkaeaaDoor.L
