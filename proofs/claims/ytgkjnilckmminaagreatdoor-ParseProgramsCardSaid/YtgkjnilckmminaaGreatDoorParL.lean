/-
  Parse: the document's examples. Own work, printed in part by a program of its own.
-/
import Derived.Test.YtgkjnilckmminaaGreatDoorParK
import Derived.Test.YtgkjnilckmminaaGreatDoorLexC
set_option linter.unusedSimpArgs false
set_option linter.unusedVariables false
set_option linter.unusedSectionVars false
namespace Go.Proofs.YtgkjnilckmminaaGreatDoor.L
open Go.L Go.L.Lx Go.L.Pg Go.L.Pa
def txA : By := [107, 105, 110, 100, 32, 97, 32, 123, 32, 115, 116, 97, 116, 101, 32, 115, 32, 123, 32, 111, 110, 32, 103, 111, 32, 51, 32, 123, 32, 115, 101, 110, 100, 32, 98, 32, 120, 32, 108, 101, 115, 115, 59, 32, 115, 116, 111, 112, 59, 32, 125, 32, 97, 110, 121, 32, 123, 32, 125, 32, 125, 32, 125]
def tkA : List Tk := [⟨1, [107, 105, 110, 100], 0, 0⟩, ⟨1, [97], 0, 5⟩, ⟨3, [123], 0, 7⟩, ⟨1, [115, 116, 97, 116, 101], 0, 9⟩, ⟨1, [115], 0, 15⟩, ⟨3, [123], 0, 17⟩, ⟨1, [111, 110], 0, 19⟩, ⟨1, [103, 111], 0, 22⟩, ⟨2, [51], 3, 25⟩, ⟨3, [123], 0, 27⟩, ⟨1, [115, 101, 110, 100], 0, 29⟩, ⟨1, [98], 0, 34⟩, ⟨1, [120], 0, 36⟩, ⟨1, [108, 101, 115, 115], 0, 38⟩, ⟨3, [59], 0, 42⟩, ⟨1, [115, 116, 111, 112], 0, 44⟩, ⟨3, [59], 0, 48⟩, ⟨3, [125], 0, 50⟩, ⟨1, [97, 110, 121], 0, 52⟩, ⟨3, [123], 0, 56⟩, ⟨3, [125], 0, 58⟩, ⟨3, [125], 0, 60⟩, ⟨3, [125], 0, 62⟩]
def txB : By := [107, 105, 110, 100, 32, 97, 32, 123, 32, 108, 105, 109, 105, 116, 32, 48, 32, 105, 110, 32, 49, 32, 59, 32, 115, 116, 97, 116, 101, 32, 115, 32, 123, 32, 111, 110, 32, 103, 111, 32, 51, 32, 123, 32, 115, 101, 110, 100, 32, 98, 32, 120, 32, 108, 101, 115, 115, 32, 59, 32, 115, 116, 111, 112, 32, 59, 32, 125, 32, 97, 110, 121, 32, 123, 32, 125, 32, 125, 32, 125]
def tkB : List Tk := [⟨1, [107, 105, 110, 100], 0, 0⟩, ⟨1, [97], 0, 5⟩, ⟨3, [123], 0, 7⟩, ⟨1, [108, 105, 109, 105, 116], 0, 9⟩, ⟨2, [48], 0, 15⟩, ⟨1, [105, 110], 0, 17⟩, ⟨2, [49], 1, 20⟩, ⟨3, [59], 0, 22⟩, ⟨1, [115, 116, 97, 116, 101], 0, 24⟩, ⟨1, [115], 0, 30⟩, ⟨3, [123], 0, 32⟩, ⟨1, [111, 110], 0, 34⟩, ⟨1, [103, 111], 0, 37⟩, ⟨2, [51], 3, 40⟩, ⟨3, [123], 0, 42⟩, ⟨1, [115, 101, 110, 100], 0, 44⟩, ⟨1, [98], 0, 49⟩, ⟨1, [120], 0, 51⟩, ⟨1, [108, 101, 115, 115], 0, 53⟩, ⟨3, [59], 0, 58⟩, ⟨1, [115, 116, 111, 112], 0, 60⟩, ⟨3, [59], 0, 65⟩, ⟨3, [125], 0, 67⟩, ⟨1, [97, 110, 121], 0, 69⟩, ⟨3, [123], 0, 73⟩, ⟨3, [125], 0, 75⟩, ⟨3, [125], 0, 77⟩, ⟨3, [125], 0, 79⟩]
abbrev ef1 : Eff := ⟨1, [98], [], [120], 1, 0, 0⟩
abbrev ef2 : Eff := ⟨11, [], [], [], 0, 0, 0⟩
def KC : List Knd := [⟨[97], 0, 1, none, 0, [], none, 0, [⟨[115], none, 0, [⟨[103, 111], true, 3, none, 0, [ef1, ef2]⟩, ⟨[], false, 0, none, 0, []⟩]⟩]⟩]
theorem lxA : lexAll txA = .ok tkA := by rw [lexAllF_eq]; kernel_rfl
theorem lxB : lexAll txB = .ok tkB := by rw [lexAllF_eq]; kernel_rfl
theorem prA : progP txA = .ok KC := by unfold progP; rw [lxA]; kernel_rfl
theorem prB : progP txB = .ok KC := by unfold progP; rw [lxB]; kernel_rfl
theorem prC : progP [107, 105, 110, 100, 32, 97] = .error (31, 6) := by
  unfold progP; rw [show lexAll [107, 105, 110, 100, 32, 97] = .ok [⟨1, [107, 105, 110, 100], 0, 0⟩, ⟨1, [97], 0, 5⟩] from by rw [lexAllF_eq]; kernel_rfl]; kernel_rfl
theorem prD : progP [107, 105, 110, 100, 32, 123, 32, 125] = .error (30, 5) := by
  unfold progP; rw [show lexAll [107, 105, 110, 100, 32, 123, 32, 125] = .ok [⟨1, [107, 105, 110, 100], 0, 0⟩, ⟨3, [123], 0, 5⟩, ⟨3, [125], 0, 7⟩] from by rw [lexAllF_eq]; kernel_rfl]; kernel_rfl
theorem dec1 (n : Nat) (h : n < 10) : dec n = [UInt8.ofNat (48 + n)] := by rw [dec, if_pos h]
theorem ito0 : itoaB 0 = [48] := by unfold itoaB; rw [if_neg (by omega)]; exact dec1 0 (by omega)
theorem ito1 : itoaB 1 = [49] := by unfold itoaB; rw [if_neg (by omega)]; exact dec1 1 (by omega)
theorem ito3 : itoaB 3 = [51] := by unfold itoaB; rw [if_neg (by omega)]; exact dec1 3 (by omega)
abbrev kA (ca : Option Addr) (cc : Nat) (sa : Option Addr) (sc : Nat) (ra : Option Addr) (rc : Nat) (ea : Option Addr) (ec : Nat) (ea2 : Option Addr) (ec2 : Nat) : Knd :=
  ⟨[97], 0, 1, ca, cc, [], sa, sc, [⟨[115], ra, rc, [⟨[103, 111], true, 3, ea, ec, [ef1, ef2]⟩, ⟨[], false, 0, ea2, ec2, []⟩]⟩]⟩
theorem map1 {α β : Type} {f : α → β} {l : List α} {y : β} (h : l.map f = [y]) : ∃ x, l = [x] ∧ f x = y := by
  match l, h with
  | [x], h => exact ⟨x, rfl, by simpa using h⟩
theorem map2 {α β : Type} {f : α → β} {l : List α} {y z : β} (h : l.map f = [y, z]) : ∃ x w, l = [x, w] ∧ f x = y ∧ f w = z := by
  match l, h with
  | [x, w], h => exact ⟨x, w, rfl, by simpa using h⟩
theorem shapeA {K : List Knd} (h : strip K = KC) : ∃ ca cc sa sc ra rc ea ec ea2 ec2, K = [kA ca cc sa sc ra rc ea ec ea2 ec2] := by
  obtain ⟨⟨nm, li, wi, ca, cc, C, sa, sc, S⟩, rfl, h1⟩ := map1 h
  unfold Knd.strip at h1
  simp only [Knd.mk.injEq, true_and] at h1
  obtain ⟨rfl, rfl, rfl, rfl, h2⟩ := h1
  obtain ⟨⟨sn, ra, rc, R⟩, rfl, h3⟩ := map1 h2
  unfold Sta.strip at h3
  simp only [Sta.mk.injEq, true_and] at h3
  obtain ⟨rfl, h4⟩ := h3
  obtain ⟨⟨t1, o1, n1, ea, ec, E1⟩, ⟨t2, o2, n2, ea2, ec2, E2⟩, rfl, h5, h6⟩ := map2 h4
  unfold Row.strip at h5 h6
  simp only [Row.mk.injEq, true_and] at h5 h6
  obtain ⟨rfl, rfl, rfl, rfl⟩ := h5
  obtain ⟨rfl, rfl, rfl, rfl⟩ := h6
  exact ⟨_, _, _, _, _, _, _, _, _, _, rfl⟩
theorem wordsA (ca : Option Addr) (cc : Nat) (sa : Option Addr) (sc : Nat) (ra : Option Addr) (rc : Nat) (ea : Option Addr) (ec : Nat) (ea2 : Option Addr) (ec2 : Nat) : prgWs [kA ca cc sa sc ra rc ea ec ea2 ec2] =
    [wKind, [97], wOpen, wLimit, [48], wIn, [49], wSemi, wState, [115], wOpen, wOn, [103, 111], [51], wOpen, [115, 101, 110, 100], [98], [120], wLess, wSemi, [115, 116, 111, 112], wSemi, wShut, wAny, wOpen, wShut, wShut, wShut] := by
  show topWs (kA ca cc sa sc ra rc ea ec ea2 ec2) ++ _ ++ _ ++ _ ++ _ = _
  unfold topWs
  show [wKind, [97], wOpen, wLimit, itoaB 0, wIn, itoaB 1, wSemi] ++ [] ++ ((([wState, [115], wOpen] ++ ((([wOn, [103, 111]] ++ [itoaB 3] ++ [wOpen] ++ effsWs [ef1, ef2] ++ [wShut]) ++ ([wAny] ++ [] ++ [wOpen] ++ effsWs [] ++ [wShut] ++ []))) ++ [wShut]) ++ [])) ++ [wShut] ++ [] = _
  rw [ito0, ito1, ito3]; rfl
theorem printA (ca : Option Addr) (cc : Nat) (sa : Option Addr) (sc : Nat) (ra : Option Addr) (rc : Nat) (ea : Option Addr) (ec : Nat) (ea2 : Option Addr) (ec2 : Nat) : printP [kA ca cc sa sc ra rc ea ec ea2 ec2] = (txB, 0) := by
  unfold printP; rw [wordsA, show joinS _ = txB from rfl, prB]; rfl

theorem rg0 : rg 0 := ⟨by decide, by decide⟩
theorem rg1 : rg 1 := ⟨by decide, by decide⟩
theorem rg3 : rg 3 := ⟨by decide, by decide⟩
theorem rgA {ca cc sa sc ra rc ea ec ea2 ec2} : ∀ k ∈ [kA ca cc sa sc ra rc ea ec ea2 ec2], KndR k := fun k hk => by
  rw [List.mem_singleton.1 hk]
  refine ⟨rg0, rg1, fun s hs r hr => ?_⟩
  rw [List.mem_singleton.1 hs] at hr
  rcases List.mem_cons.1 hr with rfl | hr
  · refine ⟨rg3, fun e he => ?_⟩
    rcases List.mem_cons.1 he with rfl | he
    · exact ⟨rg0, rg0⟩
    · rw [List.mem_singleton.1 he]; exact ⟨rg0, rg0⟩
  · rw [List.mem_singleton.1 hr]; exact ⟨rg0, fun e he => by cases he⟩

set_option maxRecDepth 8000 in
set_option maxHeartbeats 2000000 in
theorem alive_spec {W : World} (hG : Gok W) : FnS Tryz.prog 10 [] [base W] (fun u Bs => u = .bool true ∧ Bs = [base W]) := by
 refine fn_body Tryz.func10 rfl rfl rfl ?_
 intro W0 R
 simp only [List.zipIdx_cons, List.zipIdx_nil, List.map_cons, List.map_nil, Nat.zero_add, Nat.reduceAdd, List.cons_append, List.nil_append]
 refine g_seq ?_
 refine g_region ?_
 refine gl_v rfl (o_assign rfl) ?_
 refine gl_nil ?_
 refine ge_then ?_
 refine g_seq ?_
 refine g_region ?_
 refine gl_c rfl (o_call rfl (Prog_ok hG (base W) txA (by decide) KC prA) pA) ?_
 rintro _ R ⟨_, ⟨pa, pc, K', hK, rfl, rfl⟩, rfl⟩
 try simp only [List.cons_append, List.nil_append]
 obtain ⟨ca, cc, sa, sc, ra, rc, ea, ec, ea2, ec2, rfl⟩ := shapeA hK
 haveI iK : RdA (.slice pa 1 pc) (prgA pa pc [kA ca cc sa sc ra rc ea ec ea2 ec2]) 1 (kndC (kA ca cc sa sc ra rc ea ec ea2 ec2)) := ⟨fun a => a.rd.1⟩
 haveI iS : RdA (.slice sa 1 sc) (prgA pa pc [kA ca cc sa sc ra rc ea ec ea2 ec2]) 1 (staC ⟨[115], ra, rc, [⟨[103, 111], true, 3, ea, ec, [ef1, ef2]⟩, ⟨[], false, 0, ea2, ec2, []⟩]⟩) := ⟨fun a => (a.kinds _ (List.mem_singleton.2 rfl)).rds.1⟩
 haveI iR : RdA (.slice ra 2 rc) (prgA pa pc [kA ca cc sa sc ra rc ea ec ea2 ec2]) 2 (rowC ⟨[103, 111], true, 3, ea, ec, [ef1, ef2]⟩ ++ rowC ⟨[], false, 0, ea2, ec2, []⟩) := ⟨fun a => ((a.kinds _ (List.mem_singleton.2 rfl)).states _ (List.mem_singleton.2 rfl)).rd.1⟩
 haveI iE : RdA (.slice ea 2 ec) (prgA pa pc [kA ca cc sa sc ra rc ea ec ea2 ec2]) 2 (effC ef1 ++ effC ef2) := ⟨fun a => (((a.kinds _ (List.mem_singleton.2 rfl)).states _ (List.mem_singleton.2 rfl)).rows _ List.mem_cons_self).rd.1⟩
 refine gl_v rfl (o_move rfl) ?_
 refine gl_v rfl (o_extract rfl rfl) ?_
 refine gl_v rfl (o_extract rfl rfl) ?_
 refine gl_n rfl (o_alloc) ?_
 rintro _ _ ⟨b1, rfl, rfl⟩
 first | refine gl_u (o_storeSA rfl rfl rfl rfl (by simp; omega) (by simp)) ?_ | refine gl_u (o_storeA rfl rfl rfl rfl rfl) ?_
 refine gl_v rfl (o_assign rfl) ?_
 refine gl_nil ?_
 refine ge_then ?_
 refine g_seq ?_
 refine g_seq ?_
 refine g_region ?_
 refine gl_v rfl (o_move rfl) ?_
 refine gl_v rfl (o_neqnI rfl) ?_
 refine gl_v rfl (o_move rfl) ?_
 refine gl_gT rfl rfl rfl ?_
 first | refine gl_v rfl (o_fldS rfl) ?_ | refine gl_v rfl (o_fld rfl) ?_
 refine gl_gT rfl rfl rfl ?_
 first | refine gl_v rfl (o_load rfl rfl) ?_ | refine gl_v rfl (o_loadS rfl rfl) ?_ | refine gl_v rfl (o_loadC rfl) ?_
 refine gl_gT rfl rfl rfl ?_
 first | refine gl_v rfl (o_len rfl) ?_ | refine gl_v rfl (o_lenL rfl) ?_
 refine gl_gT rfl rfl rfl ?_
 refine gl_v rfl (o_is (c := false) (by rfl) (o_neq rfl rfl)) ?_
 refine gl_v rfl (o_pickF rfl rfl rfl) ?_
 refine gl_v rfl (o_move rfl) ?_
 refine gl_gT rfl rfl rfl ?_
 first | refine gl_v rfl (o_fldS rfl) ?_ | refine gl_v rfl (o_fld rfl) ?_
 refine gl_gT rfl rfl rfl ?_
 first | refine gl_v rfl (o_load rfl rfl) ?_ | refine gl_v rfl (o_loadS rfl rfl) ?_ | refine gl_v rfl (o_loadC rfl) ?_
 refine gl_gT rfl rfl rfl ?_
 refine gl_v rfl (o_idxS (j := 0) rfl rfl (by decide)) ?_
 refine gl_gT rfl rfl rfl ?_
 first | refine gl_v rfl (o_fldS rfl) ?_ | refine gl_v rfl (o_fld rfl) ?_
 refine gl_gT rfl rfl rfl ?_
 first | refine gl_v rfl (o_load rfl rfl) ?_ | refine gl_v rfl (o_loadS rfl rfl) ?_ | refine gl_v rfl (o_loadC rfl) ?_
 refine gl_gT rfl rfl rfl ?_
 refine gl_v rfl (o_is (c := false) (by rfl) (o_neq rfl rfl)) ?_
 refine gl_v rfl (o_pickF rfl rfl rfl) ?_
 refine gl_v rfl (o_move rfl) ?_
 refine gl_gT rfl rfl rfl ?_
 first | refine gl_v rfl (o_fldS rfl) ?_ | refine gl_v rfl (o_fld rfl) ?_
 refine gl_gT rfl rfl rfl ?_
 first | refine gl_v rfl (o_load rfl rfl) ?_ | refine gl_v rfl (o_loadS rfl rfl) ?_ | refine gl_v rfl (o_loadC rfl) ?_
 refine gl_gT rfl rfl rfl ?_
 refine gl_v rfl (o_idxS (j := 0) rfl rfl (by decide)) ?_
 refine gl_gT rfl rfl rfl ?_
 first | refine gl_v rfl (o_fldS rfl) ?_ | refine gl_v rfl (o_fld rfl) ?_
 refine gl_gT rfl rfl rfl ?_
 first | refine gl_v rfl (o_load rfl rfl) ?_ | refine gl_v rfl (o_loadS rfl rfl) ?_ | refine gl_v rfl (o_loadC rfl) ?_
 refine gl_gT rfl rfl rfl ?_
 first | refine gl_v rfl (o_len rfl) ?_ | refine gl_v rfl (o_lenL rfl) ?_
 refine gl_gT rfl rfl rfl ?_
 refine gl_v rfl (o_is (c := false) (by rfl) (o_neq rfl rfl)) ?_
 refine gl_v rfl (o_pickF rfl rfl rfl) ?_
 refine gl_v rfl (o_move rfl) ?_
 refine gl_gT rfl rfl rfl ?_
 first | refine gl_v rfl (o_fldS rfl) ?_ | refine gl_v rfl (o_fld rfl) ?_
 refine gl_gT rfl rfl rfl ?_
 first | refine gl_v rfl (o_load rfl rfl) ?_ | refine gl_v rfl (o_loadS rfl rfl) ?_ | refine gl_v rfl (o_loadC rfl) ?_
 refine gl_gT rfl rfl rfl ?_
 refine gl_v rfl (o_idxS (j := 0) rfl rfl (by decide)) ?_
 refine gl_gT rfl rfl rfl ?_
 first | refine gl_v rfl (o_fldS rfl) ?_ | refine gl_v rfl (o_fld rfl) ?_
 refine gl_gT rfl rfl rfl ?_
 first | refine gl_v rfl (o_load rfl rfl) ?_ | refine gl_v rfl (o_loadS rfl rfl) ?_ | refine gl_v rfl (o_loadC rfl) ?_
 refine gl_gT rfl rfl rfl ?_
 refine gl_v rfl (o_idxS (j := 0) rfl rfl (by decide)) ?_
 refine gl_gT rfl rfl rfl ?_
 first | refine gl_v rfl (o_fldS rfl) ?_ | refine gl_v rfl (o_fld rfl) ?_
 refine gl_gT rfl rfl rfl ?_
 first | refine gl_v rfl (o_load rfl rfl) ?_ | refine gl_v rfl (o_loadS rfl rfl) ?_ | refine gl_v rfl (o_loadC rfl) ?_
 refine gl_gT rfl rfl rfl ?_
 first | refine gl_v rfl (o_len rfl) ?_ | refine gl_v rfl (o_lenL rfl) ?_
 refine gl_gT rfl rfl rfl ?_
 refine gl_v rfl (o_is (c := false) (by rfl) (o_neq rfl rfl)) ?_
 refine gl_v rfl (o_pickF rfl rfl rfl) ?_
 refine gl_nil ?_
 refine ge_then ?_
 refine g_cond_false rfl ?_
 refine g_skip ?_
 refine ge_then ?_
 refine g_seq ?_
 refine g_region ?_
 first | refine gl_v rfl (o_fldS rfl) ?_ | refine gl_v rfl (o_fld rfl) ?_
 first | refine gl_v rfl (o_load rfl rfl) ?_ | refine gl_v rfl (o_loadS rfl rfl) ?_ | refine gl_v rfl (o_loadC rfl) ?_
 refine gl_v rfl (o_idxS (j := 0) rfl rfl (by decide)) ?_
 first | refine gl_v rfl (o_fldS rfl) ?_ | refine gl_v rfl (o_fld rfl) ?_
 first | refine gl_v rfl (o_load rfl rfl) ?_ | refine gl_v rfl (o_loadS rfl rfl) ?_ | refine gl_v rfl (o_loadC rfl) ?_
 refine gl_v rfl (o_idxS (j := 0) rfl rfl (by decide)) ?_
 first | refine gl_v rfl (o_fldS rfl) ?_ | refine gl_v rfl (o_fld rfl) ?_
 first | refine gl_v rfl (o_load rfl rfl) ?_ | refine gl_v rfl (o_loadS rfl rfl) ?_ | refine gl_v rfl (o_loadC rfl) ?_
 refine gl_v rfl (o_idxS (j := 0) rfl rfl (by decide)) ?_
 first | refine gl_v rfl (o_loadSA rfl rfl rfl) ?_ | refine gl_v rfl (o_loadA rfl rfl rfl) ?_
 refine gl_n rfl (o_alloc) ?_
 rintro _ _ ⟨b3, rfl, rfl⟩
 first | refine gl_u (o_storeSA rfl rfl rfl rfl (by simp; omega) (by simp)) ?_ | refine gl_u (o_storeA rfl rfl rfl rfl rfl) ?_
 refine gl_nil ?_
 refine ge_then ?_
 refine g_seq ?_
 refine g_region ?_
 first | refine gl_v rfl (o_loadSA rfl rfl rfl) ?_ | refine gl_v rfl (o_loadA rfl rfl rfl) ?_
 refine gl_imp (fun h s => sat_both.2 (Part.to (m := [prgA pa pc [kA ca cc sa sc ra rc ea ec ea2 ec2], base W]) pA s)) ?_
 refine gl_c rfl (o_call rfl (Print_spec hG (both (prgA pa pc [kA ca cc sa sc ra rc ea ec ea2 ec2]) (base W)) [kA ca cc sa sc ra rc ea ec ea2 ec2] pa pc (prg_l fun h a => a) rgA (by rw [wordsA]; decide)) pA) ?_
 rintro _ R ⟨_, ⟨rfl, rfl⟩, rfl⟩
 try simp only [List.cons_append, List.nil_append]
 rw [printA]
 refine gl_imp (fun h s => sat_both.1 (Sel.to (A := both (prgA pa pc [kA ca cc sa sc ra rc ea ec ea2 ec2]) (base W)) sE s)) ?_
 try simp only [List.append_eq, List.nil_append, List.cons_append]
 refine gl_v rfl (o_move rfl) ?_
 refine gl_v rfl (o_extract rfl rfl) ?_
 refine gl_v rfl (o_extract rfl rfl) ?_
 refine gl_v rfl (o_assign rfl) ?_
 refine gl_v rfl (o_assign rfl) ?_
 refine gl_nil ?_
 refine ge_then ?_
 refine g_seq ?_
 refine g_region ?_
 refine gl_c rfl (o_call rfl (Prog_er hG (base W) [107, 105, 110, 100, 32, 97] (by decide) (31, 6) prC) pA) ?_
 rintro _ R ⟨_, ⟨e1, rfl, rfl⟩, rfl⟩
 try simp only [List.cons_append, List.nil_append]
 refine gl_v rfl (o_move rfl) ?_
 refine gl_v rfl (o_extract rfl rfl) ?_
 refine gl_v rfl (o_extract rfl rfl) ?_
 refine gl_n rfl (o_alloc) ?_
 rintro _ _ ⟨b6, rfl, rfl⟩
 first | refine gl_u (o_storeSA rfl rfl rfl rfl (by simp; omega) (by simp)) ?_ | refine gl_u (o_storeA rfl rfl rfl rfl rfl) ?_
 refine gl_v rfl (o_assign rfl) ?_
 refine gl_nil ?_
 refine ge_then ?_
 refine g_seq ?_
 refine g_region ?_
 refine gl_c rfl (o_call rfl (Prog_er hG (base W) [107, 105, 110, 100, 32, 123, 32, 125] (by decide) (30, 5) prD) pA) ?_
 rintro _ R ⟨_, ⟨e2, rfl, rfl⟩, rfl⟩
 try simp only [List.cons_append, List.nil_append]
 refine gl_v rfl (o_move rfl) ?_
 refine gl_v rfl (o_extract rfl rfl) ?_
 refine gl_v rfl (o_extract rfl rfl) ?_
 refine gl_n rfl (o_alloc) ?_
 rintro _ _ ⟨b8, rfl, rfl⟩
 first | refine gl_u (o_storeSA rfl rfl rfl rfl (by simp; omega) (by simp)) ?_ | refine gl_u (o_storeA rfl rfl rfl rfl rfl) ?_
 refine gl_v rfl (o_assign rfl) ?_
 refine gl_nil ?_
 refine ge_then ?_
 refine g_seq ?_
 refine g_region ?_
 first | refine gl_v rfl (o_fldS rfl) ?_ | refine gl_v rfl (o_fld rfl) ?_
 first | refine gl_v rfl (o_load rfl rfl) ?_ | refine gl_v rfl (o_loadS rfl rfl) ?_ | refine gl_v rfl (o_loadC rfl) ?_
 refine gl_v rfl (o_is (c := true) (by rfl) (o_eqls rfl rfl)) ?_
 refine gl_v rfl (o_move rfl) ?_
 refine gl_gT rfl rfl rfl ?_
 first | refine gl_v rfl (o_fldS rfl) ?_ | refine gl_v rfl (o_fld rfl) ?_
 refine gl_gT rfl rfl rfl ?_
 first | refine gl_v rfl (o_load rfl rfl) ?_ | refine gl_v rfl (o_loadS rfl rfl) ?_
 refine gl_v rfl (o_pickT rfl rfl rfl) ?_
 refine gl_v rfl (o_move rfl) ?_
 refine gl_gT rfl rfl rfl ?_
 first | refine gl_v rfl (o_fldS rfl) ?_ | refine gl_v rfl (o_fld rfl) ?_
 refine gl_gT rfl rfl rfl ?_
 first | refine gl_v rfl (o_load rfl rfl) ?_ | refine gl_v rfl (o_loadS rfl rfl) ?_ | refine gl_v rfl (o_loadC rfl) ?_
 refine gl_gT rfl rfl rfl ?_
 refine gl_v rfl (o_is (c := true) (by rfl) (o_eql rfl rfl)) ?_
 refine gl_v rfl (o_pickT rfl rfl rfl) ?_
 refine gl_v rfl (o_move rfl) ?_
 refine gl_gT rfl rfl rfl ?_
 first | refine gl_v rfl (o_fldS rfl) ?_ | refine gl_v rfl (o_fld rfl) ?_
 refine gl_gT rfl rfl rfl ?_
 first | refine gl_v rfl (o_load rfl rfl) ?_ | refine gl_v rfl (o_loadS rfl rfl) ?_ | refine gl_v rfl (o_loadC rfl) ?_
 refine gl_gT rfl rfl rfl ?_
 first | refine gl_v rfl (o_len rfl) ?_ | refine gl_v rfl (o_lenL rfl) ?_
 refine gl_gT rfl rfl rfl ?_
 refine gl_v rfl (o_is (c := true) (by rfl) (o_eql rfl rfl)) ?_
 refine gl_v rfl (o_pickT rfl rfl rfl) ?_
 refine gl_v rfl (o_move rfl) ?_
 refine gl_gT rfl rfl rfl ?_
 first | refine gl_v rfl (o_fldS rfl) ?_ | refine gl_v rfl (o_fld rfl) ?_
 refine gl_gT rfl rfl rfl ?_
 first | refine gl_v rfl (o_load rfl rfl) ?_ | refine gl_v rfl (o_loadS rfl rfl) ?_ | refine gl_v rfl (o_loadC rfl) ?_
 refine gl_gT rfl rfl rfl ?_
 refine gl_v rfl (o_idxS (j := 0) rfl rfl (by decide)) ?_
 refine gl_gT rfl rfl rfl ?_
 first | refine gl_v rfl (o_loadSA rfl rfl rfl) ?_ | refine gl_v rfl (o_loadA rfl rfl rfl) ?_
 refine gl_gT rfl rfl rfl ?_
 refine gl_v rfl (o_build rfl rfl) ?_
 refine gl_gT rfl rfl rfl ?_
 refine gl_v rfl (o_is (c := true) (by simp [flatEq, effC, splice, Value.cells, S_toList]) (o_eqlA rfl rfl rfl rfl)) ?_
 refine gl_v rfl (o_pickT rfl rfl rfl) ?_
 refine gl_v rfl (o_move rfl) ?_
 refine gl_gT rfl rfl rfl ?_
 refine gl_v rfl (o_move rfl) ?_
 refine gl_gT rfl rfl rfl ?_
 refine gl_v rfl (o_is (c := true) (by rfl) (o_eql rfl rfl)) ?_
 refine gl_v rfl (o_pickT rfl rfl rfl) ?_
 refine gl_v rfl (o_move rfl) ?_
 refine gl_gT rfl rfl rfl ?_
 refine gl_v rfl (o_move rfl) ?_
 refine gl_gT rfl rfl rfl ?_
 refine gl_v rfl (o_is (c := true) (by rfl) (o_eqls rfl rfl)) ?_
 refine gl_v rfl (o_pickT rfl rfl rfl) ?_
 refine gl_v rfl (o_move rfl) ?_
 refine gl_gT rfl rfl rfl ?_
 refine gl_v rfl (o_move rfl) ?_
 refine gl_gT rfl rfl rfl ?_
 refine gl_c rfl (o_call rfl (Code_err hG e1 (31, 6)) pA) ?_
 rintro _ R ⟨_, ⟨rfl, rfl⟩, rfl⟩
 try simp only [List.cons_append, List.nil_append]
 refine gl_gT rfl rfl rfl ?_
 refine gl_v rfl (o_is (c := true) (by rfl) (o_eql rfl rfl)) ?_
 refine gl_v rfl (o_pickT rfl rfl rfl) ?_
 refine gl_v rfl (o_move rfl) ?_
 refine gl_gT rfl rfl rfl ?_
 refine gl_v rfl (o_move rfl) ?_
 refine gl_gT rfl rfl rfl ?_
 refine gl_c rfl (o_call rfl (At_err hG e1 (31, 6)) pA) ?_
 rintro _ R ⟨_, ⟨rfl, rfl⟩, rfl⟩
 try simp only [List.cons_append, List.nil_append]
 refine gl_gT rfl rfl rfl ?_
 refine gl_v rfl (o_is (c := true) (by rfl) (o_eql rfl rfl)) ?_
 refine gl_v rfl (o_pickT rfl rfl rfl) ?_
 refine gl_v rfl (o_move rfl) ?_
 refine gl_gT rfl rfl rfl ?_
 refine gl_v rfl (o_move rfl) ?_
 refine gl_gT rfl rfl rfl ?_
 refine gl_c rfl (o_call rfl (Code_err hG e2 (30, 5)) pA) ?_
 rintro _ R ⟨_, ⟨rfl, rfl⟩, rfl⟩
 try simp only [List.cons_append, List.nil_append]
 refine gl_gT rfl rfl rfl ?_
 refine gl_v rfl (o_is (c := true) (by rfl) (o_eql rfl rfl)) ?_
 refine gl_v rfl (o_pickT rfl rfl rfl) ?_
 refine gl_v rfl (o_move rfl) ?_
 refine gl_gT rfl rfl rfl ?_
 refine gl_v rfl (o_move rfl) ?_
 refine gl_gT rfl rfl rfl ?_
 refine gl_c rfl (o_call rfl (At_err hG e2 (30, 5)) pA) ?_
 rintro _ R ⟨_, ⟨rfl, rfl⟩, rfl⟩
 try simp only [List.cons_append, List.nil_append]
 refine gl_gT rfl rfl rfl ?_
 refine gl_v rfl (o_is (c := true) (by rfl) (o_eql rfl rfl)) ?_
 refine gl_v rfl (o_pickT rfl rfl rfl) ?_
 refine gl_v rfl (o_assign rfl) ?_
 refine gl_nil ?_
 refine ge_then ?_
 refine g_ret ?_
 refine ret1 (.inl rfl) rfl rfl [base W] (⟨rfl, rfl⟩) (tO)

end Go.Proofs.YtgkjnilckmminaaGreatDoor.L
