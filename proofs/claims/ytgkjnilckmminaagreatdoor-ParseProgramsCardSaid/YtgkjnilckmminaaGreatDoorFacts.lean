/-
  Facts on the program's types and functions, by program. Own work.
-/
import Derived.Test.YtgkjnilckmminaaGreatDoorErr
import Derived.Test.YtgkjnilckmminaaGreatDoorChecked
import Derived.KernelRfl
set_option linter.unusedSimpArgs false
set_option linter.unusedVariables false
namespace Go.Proofs.YtgkjnilckmminaaGreatDoor.L
open Go.L
theorem info_of {P : Program} {t : TypeId} {z : Value} {s b : Nat} (h : (P.info? t).map (fun i => (i.zero, i.size, i.bytes)) = some (some z, s, b)) : ∃ i, P.info? t = some i ∧ i.zero = some z ∧ i.size = s ∧ i.bytes = b := by
  cases hi : P.info? t with
  | none => rw [hi] at h; cases h
  | some i => rw [hi] at h; simp only [Option.map_some, Option.some.injEq, Prod.mk.injEq] at h; exact ⟨i, rfl, h.1, h.2.1, h.2.2⟩
theorem inf3 : (Tryz.prog.info? 3).map (fun i => (i.zero, i.size, i.bytes)) = some (some (.int .i64 0), 1, 8) := by kernel_rfl
theorem inf4 : (Tryz.prog.info? 4).map (fun i => (i.zero, i.size, i.bytes)) = some (some (.bool false), 1, 1) := by kernel_rfl
theorem inf5 : (Tryz.prog.info? 5).map (fun i => (i.zero, i.size, i.bytes)) = some (some (.int .u8 0), 1, 1) := by kernel_rfl
theorem inf9 : (Tryz.prog.info? 9).map (fun i => (i.zero, i.size, i.bytes)) = some (some (.string ByteArray.empty), 1, 16) := by kernel_rfl
theorem inf23 : (Tryz.prog.info? 23).map (fun i => (i.zero, i.size, i.bytes)) = some (some (.slice none 0 0), 1, 24) := by kernel_rfl
theorem inf25 : (Tryz.prog.info? 25).map (fun i => (i.zero, i.size, i.bytes)) = some (some (.agg #[(.slice none 0 0)]), 1, 24) := by kernel_rfl
theorem inf27 : (Tryz.prog.info? 27).map (fun i => (i.zero, i.size, i.bytes)) = some (some .nilIface, 1, 16) := by kernel_rfl
theorem inf32 : (Tryz.prog.info? 32).map (fun i => (i.zero, i.size, i.bytes)) = some (some (.int .i64 0), 1, 8) := by kernel_rfl
theorem inf42 : (Tryz.prog.info? 42).map (fun i => (i.zero, i.size, i.bytes)) = some (some (.slice none 0 0), 1, 24) := by kernel_rfl
theorem inf46 : (Tryz.prog.info? 46).map (fun i => (i.zero, i.size, i.bytes)) = some (some (.agg #[(.int .i64 0), (.string ByteArray.empty), (.int .i64 0), (.int .i64 0)]), 4, 40) := by kernel_rfl
theorem inf48 : (Tryz.prog.info? 48).map (fun i => (i.zero, i.size, i.bytes)) = some (some (.slice none 0 0), 1, 24) := by kernel_rfl
theorem inf49 : (Tryz.prog.info? 49).map (fun i => (i.zero, i.size, i.bytes)) = some (some (.slice none 0 0), 1, 24) := by kernel_rfl
theorem inf51 : (Tryz.prog.info? 51).map (fun i => (i.zero, i.size, i.bytes)) = some (some (.agg #[(.string ByteArray.empty), (.int .i64 0), (.int .i64 0), (.slice none 0 0), (.slice none 0 0)]), 5, 80) := by kernel_rfl
theorem inf52 : (Tryz.prog.info? 52).map (fun i => (i.zero, i.size, i.bytes)) = some (some (.slice none 0 0), 1, 24) := by kernel_rfl
theorem inf54 : (Tryz.prog.info? 54).map (fun i => (i.zero, i.size, i.bytes)) = some (some (.agg #[(.string ByteArray.empty), (.slice none 0 0)]), 2, 40) := by kernel_rfl
theorem inf55 : (Tryz.prog.info? 55).map (fun i => (i.zero, i.size, i.bytes)) = some (some (.slice none 0 0), 1, 24) := by kernel_rfl
theorem inf57 : (Tryz.prog.info? 57).map (fun i => (i.zero, i.size, i.bytes)) = some (some (.agg #[(.string ByteArray.empty), (.bool false), (.int .i64 0), (.slice none 0 0)]), 4, 56) := by kernel_rfl
theorem inf59 : (Tryz.prog.info? 59).map (fun i => (i.zero, i.size, i.bytes)) = some (some (.agg #[(.int .i64 0), (.string ByteArray.empty), (.string ByteArray.empty), (.string ByteArray.empty), (.int .i64 0), (.int .i64 0), (.int .i64 0)]), 7, 80) := by kernel_rfl
theorem inf60 : (Tryz.prog.info? 60).map (fun i => (i.zero, i.size, i.bytes)) = some (some (.pointer none), 1, 8) := by kernel_rfl
theorem inf62 : (Tryz.prog.info? 62).map (fun i => (i.zero, i.size, i.bytes)) = some (some (.pointer none), 1, 8) := by kernel_rfl
theorem inf64 : (Tryz.prog.info? 64).map (fun i => (i.zero, i.size, i.bytes)) = some (some (.agg #[(.slice none 0 0), (.int .i64 0)]), 2, 32) := by kernel_rfl
theorem inf69 : (Tryz.prog.info? 69).map (fun i => (i.zero, i.size, i.bytes)) = some (some (.pointer none), 1, 8) := by kernel_rfl
theorem inf71 : (Tryz.prog.info? 71).map (fun i => (i.zero, i.size, i.bytes)) = some (some (.agg #[(.slice none 0 0), (.int .i64 0), (.bool false)]), 3, 40) := by kernel_rfl
theorem inf74 : (Tryz.prog.info? 74).map (fun i => (i.zero, i.size, i.bytes)) = some (some (.pointer none), 1, 8) := by kernel_rfl
theorem inf76 : (Tryz.prog.info? 76).map (fun i => (i.zero, i.size, i.bytes)) = some (some (.agg #[(.int .i64 0), (.int .i64 0)]), 2, 16) := by kernel_rfl
theorem inf78 : (Tryz.prog.info? 78).map (fun i => (i.zero, i.size, i.bytes)) = some (some (.agg #[(.string ByteArray.empty), (.int .i64 0)]), 2, 24) := by kernel_rfl
theorem inf80 : (Tryz.prog.info? 80).map (fun i => (i.zero, i.size, i.bytes)) = some (some (.pointer none), 1, 8) := by kernel_rfl
theorem inf81 : (Tryz.prog.info? 81).map (fun i => (i.zero, i.size, i.bytes)) = some (some (.slice none 0 0), 1, 24) := by kernel_rfl
theorem inf83 : (Tryz.prog.info? 83).map (fun i => (i.zero, i.size, i.bytes)) = some (some (.agg #[(.slice none 0 0)]), 1, 24) := by kernel_rfl
theorem inf91 : (Tryz.prog.info? 91).map (fun i => (i.zero, i.size, i.bytes)) = some (some (.slice none 0 0), 1, 24) := by kernel_rfl
theorem inf138 : (Tryz.prog.info? 138).map (fun i => (i.zero, i.size, i.bytes)) = some (some (.int .u64 0), 1, 8) := by kernel_rfl
theorem inf166 : (Tryz.prog.info? 166).map (fun i => (i.zero, i.size, i.bytes)) = some (some (.agg #[(.string ByteArray.empty), (.string ByteArray.empty)]), 2, 32) := by kernel_rfl
theorem inf167 : (Tryz.prog.info? 167).map (fun i => (i.zero, i.size, i.bytes)) = some (some (.agg #[(.string ByteArray.empty), (.string ByteArray.empty), (.string ByteArray.empty), (.string ByteArray.empty), (.string ByteArray.empty), (.string ByteArray.empty), (.string ByteArray.empty), (.string ByteArray.empty), (.string ByteArray.empty), (.string ByteArray.empty), (.string ByteArray.empty), (.string ByteArray.empty), (.string ByteArray.empty), (.string ByteArray.empty), (.string ByteArray.empty), (.string ByteArray.empty), (.string ByteArray.empty), (.string ByteArray.empty), (.string ByteArray.empty), (.string ByteArray.empty), (.string ByteArray.empty), (.string ByteArray.empty), (.string ByteArray.empty), (.string ByteArray.empty)]), 24, 384) := by kernel_rfl
theorem inf168 : (Tryz.prog.info? 168).map (fun i => (i.zero, i.size, i.bytes)) = some (some .nilFunc, 1, 8) := by kernel_rfl
instance : TZeroC Tryz.prog 3 [(.int .i64 0)] := ⟨let ⟨i, a, b, _, _⟩ := info_of inf3; ⟨i, _, a, b, rfl⟩⟩
instance : TCell Tryz.prog 3 := ⟨⟨_, Tryz.underlying3, rfl⟩, let ⟨i, a, _, c, _⟩ := info_of inf3; ⟨i, a, c⟩⟩
instance : TInt Tryz.prog 3 .i64 := ⟨Tryz.underlying3⟩
instance : TZeroC Tryz.prog 4 [(.bool false)] := ⟨let ⟨i, a, b, _, _⟩ := info_of inf4; ⟨i, _, a, b, rfl⟩⟩
instance : TCell Tryz.prog 4 := ⟨⟨_, Tryz.underlying4, rfl⟩, let ⟨i, a, _, c, _⟩ := info_of inf4; ⟨i, a, c⟩⟩
instance : TBool Tryz.prog 4 := ⟨Tryz.underlying4⟩
instance : TZeroC Tryz.prog 5 [(.int .u8 0)] := ⟨let ⟨i, a, b, _, _⟩ := info_of inf5; ⟨i, _, a, b, rfl⟩⟩
instance : TCell Tryz.prog 5 := ⟨⟨_, Tryz.underlying5, rfl⟩, let ⟨i, a, _, c, _⟩ := info_of inf5; ⟨i, a, c⟩⟩
instance : TInt Tryz.prog 5 .u8 := ⟨Tryz.underlying5⟩
instance : TZeroC Tryz.prog 9 [(.string ByteArray.empty)] := ⟨let ⟨i, a, b, _, _⟩ := info_of inf9; ⟨i, _, a, b, rfl⟩⟩
instance : TCell Tryz.prog 9 := ⟨⟨_, Tryz.underlying9, rfl⟩, let ⟨i, a, _, c, _⟩ := info_of inf9; ⟨i, a, c⟩⟩
instance : TStr Tryz.prog 9 := ⟨Tryz.underlying9⟩
instance : TZeroC Tryz.prog 23 [(.slice none 0 0)] := ⟨let ⟨i, a, b, _, _⟩ := info_of inf23; ⟨i, _, a, b, rfl⟩⟩
instance : TCell Tryz.prog 23 := ⟨⟨_, Tryz.underlying23, rfl⟩, let ⟨i, a, _, c, _⟩ := info_of inf23; ⟨i, a, c⟩⟩
instance : TSlice Tryz.prog 23 51 5 := ⟨let ⟨i, a, _, c, _⟩ := info_of inf51; ⟨i, Tryz.underlying23, a, c⟩⟩
instance : TElem Tryz.prog 23 51 5 80 [(.string ByteArray.empty), (.int .i64 0), (.int .i64 0), (.slice none 0 0), (.slice none 0 0)] := ⟨let ⟨i, a, b, c, d⟩ := info_of inf51; ⟨i, _, Tryz.underlying23, a, c, d, b, rfl, rfl⟩⟩
instance : TZeroC Tryz.prog 25 [(.slice none 0 0)] := ⟨let ⟨i, a, b, _, _⟩ := info_of inf25; ⟨i, _, a, b, rfl⟩⟩
instance : TAgg Tryz.prog 25 1 := ⟨⟨_, Tryz.underlying25, rfl⟩, let ⟨i, a, _, c, _⟩ := info_of inf25; ⟨i, a, c⟩⟩
instance : TFld Tryz.prog 25 0 0 := ⟨let ⟨i, a, _, c, _⟩ := info_of inf23; ⟨_, _, i, Tryz.underlying25, rfl, rfl, a, by rw [c]; decide⟩⟩
instance : TFldV Tryz.prog 25 0 0 := ⟨⟨_, _, _, Tryz.underlying25, rfl, rfl, Tryz.underlying23, rfl⟩⟩
instance : TStruct Tryz.prog 25 [(0, 1)] [(.slice none 0 0)] := ⟨let ⟨i, a, b, _, _⟩ := info_of inf25; ⟨i, _, _, a, b, rfl, Tryz.underlying25, by kernel_rfl⟩⟩
instance : TZeroC Tryz.prog 27 [.nilIface] := ⟨let ⟨i, a, b, _, _⟩ := info_of inf27; ⟨i, _, a, b, rfl⟩⟩
instance : TCell Tryz.prog 27 := ⟨⟨_, Tryz.underlying27, rfl⟩, let ⟨i, a, _, c, _⟩ := info_of inf27; ⟨i, a, c⟩⟩
instance : TIfc Tryz.prog 27 := ⟨_, Tryz.underlying27⟩
instance : TZeroC Tryz.prog 32 [(.int .i64 0)] := ⟨let ⟨i, a, b, _, _⟩ := info_of inf32; ⟨i, _, a, b, rfl⟩⟩
instance : TCell Tryz.prog 32 := ⟨⟨_, Tryz.underlying32, rfl⟩, let ⟨i, a, _, c, _⟩ := info_of inf32; ⟨i, a, c⟩⟩
instance : TInt Tryz.prog 32 .i64 := ⟨Tryz.underlying32⟩
instance : TZeroC Tryz.prog 42 [(.slice none 0 0)] := ⟨let ⟨i, a, b, _, _⟩ := info_of inf42; ⟨i, _, a, b, rfl⟩⟩
instance : TCell Tryz.prog 42 := ⟨⟨_, Tryz.underlying42, rfl⟩, let ⟨i, a, _, c, _⟩ := info_of inf42; ⟨i, a, c⟩⟩
instance : TSlice Tryz.prog 42 46 4 := ⟨let ⟨i, a, _, c, _⟩ := info_of inf46; ⟨i, Tryz.underlying42, a, c⟩⟩
instance : TElem Tryz.prog 42 46 4 40 [(.int .i64 0), (.string ByteArray.empty), (.int .i64 0), (.int .i64 0)] := ⟨let ⟨i, a, b, c, d⟩ := info_of inf46; ⟨i, _, Tryz.underlying42, a, c, d, b, rfl, rfl⟩⟩
instance : TZeroC Tryz.prog 46 [(.int .i64 0), (.string ByteArray.empty), (.int .i64 0), (.int .i64 0)] := ⟨let ⟨i, a, b, _, _⟩ := info_of inf46; ⟨i, _, a, b, rfl⟩⟩
instance : TAgg Tryz.prog 46 4 := ⟨⟨_, Tryz.underlying46, rfl⟩, let ⟨i, a, _, c, _⟩ := info_of inf46; ⟨i, a, c⟩⟩
instance : TFld Tryz.prog 46 0 0 := ⟨let ⟨i, a, _, c, _⟩ := info_of inf3; ⟨_, _, i, Tryz.underlying46, rfl, rfl, a, by rw [c]; decide⟩⟩
instance : TFld Tryz.prog 46 1 1 := ⟨let ⟨i, a, _, c, _⟩ := info_of inf9; ⟨_, _, i, Tryz.underlying46, rfl, rfl, a, by rw [c]; decide⟩⟩
instance : TFld Tryz.prog 46 2 2 := ⟨let ⟨i, a, _, c, _⟩ := info_of inf3; ⟨_, _, i, Tryz.underlying46, rfl, rfl, a, by rw [c]; decide⟩⟩
instance : TFld Tryz.prog 46 3 3 := ⟨let ⟨i, a, _, c, _⟩ := info_of inf3; ⟨_, _, i, Tryz.underlying46, rfl, rfl, a, by rw [c]; decide⟩⟩
instance : TFldV Tryz.prog 46 0 0 := ⟨⟨_, _, _, Tryz.underlying46, rfl, rfl, Tryz.underlying3, rfl⟩⟩
instance : TFldV Tryz.prog 46 1 1 := ⟨⟨_, _, _, Tryz.underlying46, rfl, rfl, Tryz.underlying9, rfl⟩⟩
instance : TFldV Tryz.prog 46 2 2 := ⟨⟨_, _, _, Tryz.underlying46, rfl, rfl, Tryz.underlying3, rfl⟩⟩
instance : TFldV Tryz.prog 46 3 3 := ⟨⟨_, _, _, Tryz.underlying46, rfl, rfl, Tryz.underlying3, rfl⟩⟩
instance : TFlat Tryz.prog 46 [.int .i64, .str, .int .i64, .int .i64] := ⟨⟨_, Tryz.underlying46, by kernel_rfl⟩, by kernel_rfl, by kernel_rfl⟩
instance : TStruct Tryz.prog 46 [(0, 1), (1, 1), (2, 1), (3, 1)] [(.int .i64 0), (.string ByteArray.empty), (.int .i64 0), (.int .i64 0)] := ⟨let ⟨i, a, b, _, _⟩ := info_of inf46; ⟨i, _, _, a, b, rfl, Tryz.underlying46, by kernel_rfl⟩⟩
instance : TZeroC Tryz.prog 48 [(.slice none 0 0)] := ⟨let ⟨i, a, b, _, _⟩ := info_of inf48; ⟨i, _, a, b, rfl⟩⟩
instance : TCell Tryz.prog 48 := ⟨⟨_, Tryz.underlying48, rfl⟩, let ⟨i, a, _, c, _⟩ := info_of inf48; ⟨i, a, c⟩⟩
instance : TSlice Tryz.prog 48 78 2 := ⟨let ⟨i, a, _, c, _⟩ := info_of inf78; ⟨i, Tryz.underlying48, a, c⟩⟩
instance : TElem Tryz.prog 48 78 2 24 [(.string ByteArray.empty), (.int .i64 0)] := ⟨let ⟨i, a, b, c, d⟩ := info_of inf78; ⟨i, _, Tryz.underlying48, a, c, d, b, rfl, rfl⟩⟩
instance : TZeroC Tryz.prog 49 [(.slice none 0 0)] := ⟨let ⟨i, a, b, _, _⟩ := info_of inf49; ⟨i, _, a, b, rfl⟩⟩
instance : TCell Tryz.prog 49 := ⟨⟨_, Tryz.underlying49, rfl⟩, let ⟨i, a, _, c, _⟩ := info_of inf49; ⟨i, a, c⟩⟩
instance : TSlice Tryz.prog 49 54 2 := ⟨let ⟨i, a, _, c, _⟩ := info_of inf54; ⟨i, Tryz.underlying49, a, c⟩⟩
instance : TElem Tryz.prog 49 54 2 40 [(.string ByteArray.empty), (.slice none 0 0)] := ⟨let ⟨i, a, b, c, d⟩ := info_of inf54; ⟨i, _, Tryz.underlying49, a, c, d, b, rfl, rfl⟩⟩
instance : TZeroC Tryz.prog 51 [(.string ByteArray.empty), (.int .i64 0), (.int .i64 0), (.slice none 0 0), (.slice none 0 0)] := ⟨let ⟨i, a, b, _, _⟩ := info_of inf51; ⟨i, _, a, b, rfl⟩⟩
instance : TAgg Tryz.prog 51 5 := ⟨⟨_, Tryz.underlying51, rfl⟩, let ⟨i, a, _, c, _⟩ := info_of inf51; ⟨i, a, c⟩⟩
instance : TFld Tryz.prog 51 0 0 := ⟨let ⟨i, a, _, c, _⟩ := info_of inf9; ⟨_, _, i, Tryz.underlying51, rfl, rfl, a, by rw [c]; decide⟩⟩
instance : TFld Tryz.prog 51 1 1 := ⟨let ⟨i, a, _, c, _⟩ := info_of inf3; ⟨_, _, i, Tryz.underlying51, rfl, rfl, a, by rw [c]; decide⟩⟩
instance : TFld Tryz.prog 51 2 2 := ⟨let ⟨i, a, _, c, _⟩ := info_of inf3; ⟨_, _, i, Tryz.underlying51, rfl, rfl, a, by rw [c]; decide⟩⟩
instance : TFld Tryz.prog 51 3 3 := ⟨let ⟨i, a, _, c, _⟩ := info_of inf48; ⟨_, _, i, Tryz.underlying51, rfl, rfl, a, by rw [c]; decide⟩⟩
instance : TFld Tryz.prog 51 4 4 := ⟨let ⟨i, a, _, c, _⟩ := info_of inf49; ⟨_, _, i, Tryz.underlying51, rfl, rfl, a, by rw [c]; decide⟩⟩
instance : TFldV Tryz.prog 51 0 0 := ⟨⟨_, _, _, Tryz.underlying51, rfl, rfl, Tryz.underlying9, rfl⟩⟩
instance : TFldV Tryz.prog 51 1 1 := ⟨⟨_, _, _, Tryz.underlying51, rfl, rfl, Tryz.underlying3, rfl⟩⟩
instance : TFldV Tryz.prog 51 2 2 := ⟨⟨_, _, _, Tryz.underlying51, rfl, rfl, Tryz.underlying3, rfl⟩⟩
instance : TFldV Tryz.prog 51 3 3 := ⟨⟨_, _, _, Tryz.underlying51, rfl, rfl, Tryz.underlying48, rfl⟩⟩
instance : TFldV Tryz.prog 51 4 4 := ⟨⟨_, _, _, Tryz.underlying51, rfl, rfl, Tryz.underlying49, rfl⟩⟩
instance : TStruct Tryz.prog 51 [(0, 1), (1, 1), (2, 1), (3, 1), (4, 1)] [(.string ByteArray.empty), (.int .i64 0), (.int .i64 0), (.slice none 0 0), (.slice none 0 0)] := ⟨let ⟨i, a, b, _, _⟩ := info_of inf51; ⟨i, _, _, a, b, rfl, Tryz.underlying51, by kernel_rfl⟩⟩
instance : TZeroC Tryz.prog 52 [(.slice none 0 0)] := ⟨let ⟨i, a, b, _, _⟩ := info_of inf52; ⟨i, _, a, b, rfl⟩⟩
instance : TCell Tryz.prog 52 := ⟨⟨_, Tryz.underlying52, rfl⟩, let ⟨i, a, _, c, _⟩ := info_of inf52; ⟨i, a, c⟩⟩
instance : TSlice Tryz.prog 52 57 4 := ⟨let ⟨i, a, _, c, _⟩ := info_of inf57; ⟨i, Tryz.underlying52, a, c⟩⟩
instance : TElem Tryz.prog 52 57 4 56 [(.string ByteArray.empty), (.bool false), (.int .i64 0), (.slice none 0 0)] := ⟨let ⟨i, a, b, c, d⟩ := info_of inf57; ⟨i, _, Tryz.underlying52, a, c, d, b, rfl, rfl⟩⟩
instance : TZeroC Tryz.prog 54 [(.string ByteArray.empty), (.slice none 0 0)] := ⟨let ⟨i, a, b, _, _⟩ := info_of inf54; ⟨i, _, a, b, rfl⟩⟩
instance : TAgg Tryz.prog 54 2 := ⟨⟨_, Tryz.underlying54, rfl⟩, let ⟨i, a, _, c, _⟩ := info_of inf54; ⟨i, a, c⟩⟩
instance : TFld Tryz.prog 54 0 0 := ⟨let ⟨i, a, _, c, _⟩ := info_of inf9; ⟨_, _, i, Tryz.underlying54, rfl, rfl, a, by rw [c]; decide⟩⟩
instance : TFld Tryz.prog 54 1 1 := ⟨let ⟨i, a, _, c, _⟩ := info_of inf52; ⟨_, _, i, Tryz.underlying54, rfl, rfl, a, by rw [c]; decide⟩⟩
instance : TFldV Tryz.prog 54 0 0 := ⟨⟨_, _, _, Tryz.underlying54, rfl, rfl, Tryz.underlying9, rfl⟩⟩
instance : TFldV Tryz.prog 54 1 1 := ⟨⟨_, _, _, Tryz.underlying54, rfl, rfl, Tryz.underlying52, rfl⟩⟩
instance : TStruct Tryz.prog 54 [(0, 1), (1, 1)] [(.string ByteArray.empty), (.slice none 0 0)] := ⟨let ⟨i, a, b, _, _⟩ := info_of inf54; ⟨i, _, _, a, b, rfl, Tryz.underlying54, by kernel_rfl⟩⟩
instance : TZeroC Tryz.prog 55 [(.slice none 0 0)] := ⟨let ⟨i, a, b, _, _⟩ := info_of inf55; ⟨i, _, a, b, rfl⟩⟩
instance : TCell Tryz.prog 55 := ⟨⟨_, Tryz.underlying55, rfl⟩, let ⟨i, a, _, c, _⟩ := info_of inf55; ⟨i, a, c⟩⟩
instance : TSlice Tryz.prog 55 59 7 := ⟨let ⟨i, a, _, c, _⟩ := info_of inf59; ⟨i, Tryz.underlying55, a, c⟩⟩
instance : TElem Tryz.prog 55 59 7 80 [(.int .i64 0), (.string ByteArray.empty), (.string ByteArray.empty), (.string ByteArray.empty), (.int .i64 0), (.int .i64 0), (.int .i64 0)] := ⟨let ⟨i, a, b, c, d⟩ := info_of inf59; ⟨i, _, Tryz.underlying55, a, c, d, b, rfl, rfl⟩⟩
instance : TZeroC Tryz.prog 57 [(.string ByteArray.empty), (.bool false), (.int .i64 0), (.slice none 0 0)] := ⟨let ⟨i, a, b, _, _⟩ := info_of inf57; ⟨i, _, a, b, rfl⟩⟩
instance : TAgg Tryz.prog 57 4 := ⟨⟨_, Tryz.underlying57, rfl⟩, let ⟨i, a, _, c, _⟩ := info_of inf57; ⟨i, a, c⟩⟩
instance : TFld Tryz.prog 57 0 0 := ⟨let ⟨i, a, _, c, _⟩ := info_of inf9; ⟨_, _, i, Tryz.underlying57, rfl, rfl, a, by rw [c]; decide⟩⟩
instance : TFld Tryz.prog 57 1 1 := ⟨let ⟨i, a, _, c, _⟩ := info_of inf4; ⟨_, _, i, Tryz.underlying57, rfl, rfl, a, by rw [c]; decide⟩⟩
instance : TFld Tryz.prog 57 2 2 := ⟨let ⟨i, a, _, c, _⟩ := info_of inf3; ⟨_, _, i, Tryz.underlying57, rfl, rfl, a, by rw [c]; decide⟩⟩
instance : TFld Tryz.prog 57 3 3 := ⟨let ⟨i, a, _, c, _⟩ := info_of inf55; ⟨_, _, i, Tryz.underlying57, rfl, rfl, a, by rw [c]; decide⟩⟩
instance : TFldV Tryz.prog 57 0 0 := ⟨⟨_, _, _, Tryz.underlying57, rfl, rfl, Tryz.underlying9, rfl⟩⟩
instance : TFldV Tryz.prog 57 1 1 := ⟨⟨_, _, _, Tryz.underlying57, rfl, rfl, Tryz.underlying4, rfl⟩⟩
instance : TFldV Tryz.prog 57 2 2 := ⟨⟨_, _, _, Tryz.underlying57, rfl, rfl, Tryz.underlying3, rfl⟩⟩
instance : TFldV Tryz.prog 57 3 3 := ⟨⟨_, _, _, Tryz.underlying57, rfl, rfl, Tryz.underlying55, rfl⟩⟩
instance : TStruct Tryz.prog 57 [(0, 1), (1, 1), (2, 1), (3, 1)] [(.string ByteArray.empty), (.bool false), (.int .i64 0), (.slice none 0 0)] := ⟨let ⟨i, a, b, _, _⟩ := info_of inf57; ⟨i, _, _, a, b, rfl, Tryz.underlying57, by kernel_rfl⟩⟩
instance : TZeroC Tryz.prog 59 [(.int .i64 0), (.string ByteArray.empty), (.string ByteArray.empty), (.string ByteArray.empty), (.int .i64 0), (.int .i64 0), (.int .i64 0)] := ⟨let ⟨i, a, b, _, _⟩ := info_of inf59; ⟨i, _, a, b, rfl⟩⟩
instance : TAgg Tryz.prog 59 7 := ⟨⟨_, Tryz.underlying59, rfl⟩, let ⟨i, a, _, c, _⟩ := info_of inf59; ⟨i, a, c⟩⟩
instance : TFld Tryz.prog 59 0 0 := ⟨let ⟨i, a, _, c, _⟩ := info_of inf3; ⟨_, _, i, Tryz.underlying59, rfl, rfl, a, by rw [c]; decide⟩⟩
instance : TFld Tryz.prog 59 1 1 := ⟨let ⟨i, a, _, c, _⟩ := info_of inf9; ⟨_, _, i, Tryz.underlying59, rfl, rfl, a, by rw [c]; decide⟩⟩
instance : TFld Tryz.prog 59 2 2 := ⟨let ⟨i, a, _, c, _⟩ := info_of inf9; ⟨_, _, i, Tryz.underlying59, rfl, rfl, a, by rw [c]; decide⟩⟩
instance : TFld Tryz.prog 59 3 3 := ⟨let ⟨i, a, _, c, _⟩ := info_of inf9; ⟨_, _, i, Tryz.underlying59, rfl, rfl, a, by rw [c]; decide⟩⟩
instance : TFld Tryz.prog 59 4 4 := ⟨let ⟨i, a, _, c, _⟩ := info_of inf3; ⟨_, _, i, Tryz.underlying59, rfl, rfl, a, by rw [c]; decide⟩⟩
instance : TFld Tryz.prog 59 5 5 := ⟨let ⟨i, a, _, c, _⟩ := info_of inf3; ⟨_, _, i, Tryz.underlying59, rfl, rfl, a, by rw [c]; decide⟩⟩
instance : TFld Tryz.prog 59 6 6 := ⟨let ⟨i, a, _, c, _⟩ := info_of inf3; ⟨_, _, i, Tryz.underlying59, rfl, rfl, a, by rw [c]; decide⟩⟩
instance : TFldV Tryz.prog 59 0 0 := ⟨⟨_, _, _, Tryz.underlying59, rfl, rfl, Tryz.underlying3, rfl⟩⟩
instance : TFldV Tryz.prog 59 1 1 := ⟨⟨_, _, _, Tryz.underlying59, rfl, rfl, Tryz.underlying9, rfl⟩⟩
instance : TFldV Tryz.prog 59 2 2 := ⟨⟨_, _, _, Tryz.underlying59, rfl, rfl, Tryz.underlying9, rfl⟩⟩
instance : TFldV Tryz.prog 59 3 3 := ⟨⟨_, _, _, Tryz.underlying59, rfl, rfl, Tryz.underlying9, rfl⟩⟩
instance : TFldV Tryz.prog 59 4 4 := ⟨⟨_, _, _, Tryz.underlying59, rfl, rfl, Tryz.underlying3, rfl⟩⟩
instance : TFldV Tryz.prog 59 5 5 := ⟨⟨_, _, _, Tryz.underlying59, rfl, rfl, Tryz.underlying3, rfl⟩⟩
instance : TFldV Tryz.prog 59 6 6 := ⟨⟨_, _, _, Tryz.underlying59, rfl, rfl, Tryz.underlying3, rfl⟩⟩
instance : TFlat Tryz.prog 59 [.int .i64, .str, .str, .str, .int .i64, .int .i64, .int .i64] := ⟨⟨_, Tryz.underlying59, by kernel_rfl⟩, by kernel_rfl, by kernel_rfl⟩
instance : TStruct Tryz.prog 59 [(0, 1), (1, 1), (2, 1), (3, 1), (4, 1), (5, 1), (6, 1)] [(.int .i64 0), (.string ByteArray.empty), (.string ByteArray.empty), (.string ByteArray.empty), (.int .i64 0), (.int .i64 0), (.int .i64 0)] := ⟨let ⟨i, a, b, _, _⟩ := info_of inf59; ⟨i, _, _, a, b, rfl, Tryz.underlying59, by kernel_rfl⟩⟩
instance : TZeroC Tryz.prog 60 [(.pointer none)] := ⟨let ⟨i, a, b, _, _⟩ := info_of inf60; ⟨i, _, a, b, rfl⟩⟩
instance : TCell Tryz.prog 60 := ⟨⟨_, Tryz.underlying60, rfl⟩, let ⟨i, a, _, c, _⟩ := info_of inf60; ⟨i, a, c⟩⟩
instance : TPtr Tryz.prog 60 := ⟨_, Tryz.underlying60⟩
instance : TZeroC Tryz.prog 62 [(.pointer none)] := ⟨let ⟨i, a, b, _, _⟩ := info_of inf62; ⟨i, _, a, b, rfl⟩⟩
instance : TCell Tryz.prog 62 := ⟨⟨_, Tryz.underlying62, rfl⟩, let ⟨i, a, _, c, _⟩ := info_of inf62; ⟨i, a, c⟩⟩
instance : TPtr Tryz.prog 62 := ⟨_, Tryz.underlying62⟩
instance : TZeroC Tryz.prog 64 [(.slice none 0 0), (.int .i64 0)] := ⟨let ⟨i, a, b, _, _⟩ := info_of inf64; ⟨i, _, a, b, rfl⟩⟩
instance : TAgg Tryz.prog 64 2 := ⟨⟨_, Tryz.underlying64, rfl⟩, let ⟨i, a, _, c, _⟩ := info_of inf64; ⟨i, a, c⟩⟩
instance : TFld Tryz.prog 64 0 0 := ⟨let ⟨i, a, _, c, _⟩ := info_of inf42; ⟨_, _, i, Tryz.underlying64, rfl, rfl, a, by rw [c]; decide⟩⟩
instance : TFld Tryz.prog 64 1 1 := ⟨let ⟨i, a, _, c, _⟩ := info_of inf3; ⟨_, _, i, Tryz.underlying64, rfl, rfl, a, by rw [c]; decide⟩⟩
instance : TFldV Tryz.prog 64 0 0 := ⟨⟨_, _, _, Tryz.underlying64, rfl, rfl, Tryz.underlying42, rfl⟩⟩
instance : TFldV Tryz.prog 64 1 1 := ⟨⟨_, _, _, Tryz.underlying64, rfl, rfl, Tryz.underlying3, rfl⟩⟩
instance : TStruct Tryz.prog 64 [(0, 1), (1, 1)] [(.slice none 0 0), (.int .i64 0)] := ⟨let ⟨i, a, b, _, _⟩ := info_of inf64; ⟨i, _, _, a, b, rfl, Tryz.underlying64, by kernel_rfl⟩⟩
instance : TZeroC Tryz.prog 69 [(.pointer none)] := ⟨let ⟨i, a, b, _, _⟩ := info_of inf69; ⟨i, _, a, b, rfl⟩⟩
instance : TCell Tryz.prog 69 := ⟨⟨_, Tryz.underlying69, rfl⟩, let ⟨i, a, _, c, _⟩ := info_of inf69; ⟨i, a, c⟩⟩
instance : TPtr Tryz.prog 69 := ⟨_, Tryz.underlying69⟩
instance : TZeroC Tryz.prog 71 [(.slice none 0 0), (.int .i64 0), (.bool false)] := ⟨let ⟨i, a, b, _, _⟩ := info_of inf71; ⟨i, _, a, b, rfl⟩⟩
instance : TAgg Tryz.prog 71 3 := ⟨⟨_, Tryz.underlying71, rfl⟩, let ⟨i, a, _, c, _⟩ := info_of inf71; ⟨i, a, c⟩⟩
instance : TFld Tryz.prog 71 0 0 := ⟨let ⟨i, a, _, c, _⟩ := info_of inf42; ⟨_, _, i, Tryz.underlying71, rfl, rfl, a, by rw [c]; decide⟩⟩
instance : TFld Tryz.prog 71 1 1 := ⟨let ⟨i, a, _, c, _⟩ := info_of inf3; ⟨_, _, i, Tryz.underlying71, rfl, rfl, a, by rw [c]; decide⟩⟩
instance : TFld Tryz.prog 71 2 2 := ⟨let ⟨i, a, _, c, _⟩ := info_of inf4; ⟨_, _, i, Tryz.underlying71, rfl, rfl, a, by rw [c]; decide⟩⟩
instance : TFldV Tryz.prog 71 0 0 := ⟨⟨_, _, _, Tryz.underlying71, rfl, rfl, Tryz.underlying42, rfl⟩⟩
instance : TFldV Tryz.prog 71 1 1 := ⟨⟨_, _, _, Tryz.underlying71, rfl, rfl, Tryz.underlying3, rfl⟩⟩
instance : TFldV Tryz.prog 71 2 2 := ⟨⟨_, _, _, Tryz.underlying71, rfl, rfl, Tryz.underlying4, rfl⟩⟩
instance : TStruct Tryz.prog 71 [(0, 1), (1, 1), (2, 1)] [(.slice none 0 0), (.int .i64 0), (.bool false)] := ⟨let ⟨i, a, b, _, _⟩ := info_of inf71; ⟨i, _, _, a, b, rfl, Tryz.underlying71, by kernel_rfl⟩⟩
instance : TZeroC Tryz.prog 74 [(.pointer none)] := ⟨let ⟨i, a, b, _, _⟩ := info_of inf74; ⟨i, _, a, b, rfl⟩⟩
instance : TCell Tryz.prog 74 := ⟨⟨_, Tryz.underlying74, rfl⟩, let ⟨i, a, _, c, _⟩ := info_of inf74; ⟨i, a, c⟩⟩
instance : TPtr Tryz.prog 74 := ⟨_, Tryz.underlying74⟩
instance : TZeroC Tryz.prog 76 [(.int .i64 0), (.int .i64 0)] := ⟨let ⟨i, a, b, _, _⟩ := info_of inf76; ⟨i, _, a, b, rfl⟩⟩
instance : TAgg Tryz.prog 76 2 := ⟨⟨_, Tryz.underlying76, rfl⟩, let ⟨i, a, _, c, _⟩ := info_of inf76; ⟨i, a, c⟩⟩
instance : TFld Tryz.prog 76 0 0 := ⟨let ⟨i, a, _, c, _⟩ := info_of inf32; ⟨_, _, i, Tryz.underlying76, rfl, rfl, a, by rw [c]; decide⟩⟩
instance : TFld Tryz.prog 76 1 1 := ⟨let ⟨i, a, _, c, _⟩ := info_of inf3; ⟨_, _, i, Tryz.underlying76, rfl, rfl, a, by rw [c]; decide⟩⟩
instance : TFldV Tryz.prog 76 0 0 := ⟨⟨_, _, _, Tryz.underlying76, rfl, rfl, Tryz.underlying32, rfl⟩⟩
instance : TFldV Tryz.prog 76 1 1 := ⟨⟨_, _, _, Tryz.underlying76, rfl, rfl, Tryz.underlying3, rfl⟩⟩
instance : TFlat Tryz.prog 76 [.int .i64, .int .i64] := ⟨⟨_, Tryz.underlying76, by kernel_rfl⟩, by kernel_rfl, by kernel_rfl⟩
instance : TStruct Tryz.prog 76 [(0, 1), (1, 1)] [(.int .i64 0), (.int .i64 0)] := ⟨let ⟨i, a, b, _, _⟩ := info_of inf76; ⟨i, _, _, a, b, rfl, Tryz.underlying76, by kernel_rfl⟩⟩
instance : TZeroC Tryz.prog 78 [(.string ByteArray.empty), (.int .i64 0)] := ⟨let ⟨i, a, b, _, _⟩ := info_of inf78; ⟨i, _, a, b, rfl⟩⟩
instance : TAgg Tryz.prog 78 2 := ⟨⟨_, Tryz.underlying78, rfl⟩, let ⟨i, a, _, c, _⟩ := info_of inf78; ⟨i, a, c⟩⟩
instance : TFld Tryz.prog 78 0 0 := ⟨let ⟨i, a, _, c, _⟩ := info_of inf9; ⟨_, _, i, Tryz.underlying78, rfl, rfl, a, by rw [c]; decide⟩⟩
instance : TFld Tryz.prog 78 1 1 := ⟨let ⟨i, a, _, c, _⟩ := info_of inf3; ⟨_, _, i, Tryz.underlying78, rfl, rfl, a, by rw [c]; decide⟩⟩
instance : TFldV Tryz.prog 78 0 0 := ⟨⟨_, _, _, Tryz.underlying78, rfl, rfl, Tryz.underlying9, rfl⟩⟩
instance : TFldV Tryz.prog 78 1 1 := ⟨⟨_, _, _, Tryz.underlying78, rfl, rfl, Tryz.underlying3, rfl⟩⟩
instance : TFlat Tryz.prog 78 [.str, .int .i64] := ⟨⟨_, Tryz.underlying78, by kernel_rfl⟩, by kernel_rfl, by kernel_rfl⟩
instance : TStruct Tryz.prog 78 [(0, 1), (1, 1)] [(.string ByteArray.empty), (.int .i64 0)] := ⟨let ⟨i, a, b, _, _⟩ := info_of inf78; ⟨i, _, _, a, b, rfl, Tryz.underlying78, by kernel_rfl⟩⟩
instance : TZeroC Tryz.prog 80 [(.pointer none)] := ⟨let ⟨i, a, b, _, _⟩ := info_of inf80; ⟨i, _, a, b, rfl⟩⟩
instance : TCell Tryz.prog 80 := ⟨⟨_, Tryz.underlying80, rfl⟩, let ⟨i, a, _, c, _⟩ := info_of inf80; ⟨i, a, c⟩⟩
instance : TPtr Tryz.prog 80 := ⟨_, Tryz.underlying80⟩
instance : TZeroC Tryz.prog 81 [(.slice none 0 0)] := ⟨let ⟨i, a, b, _, _⟩ := info_of inf81; ⟨i, _, a, b, rfl⟩⟩
instance : TCell Tryz.prog 81 := ⟨⟨_, Tryz.underlying81, rfl⟩, let ⟨i, a, _, c, _⟩ := info_of inf81; ⟨i, a, c⟩⟩
instance : TSlice Tryz.prog 81 9 1 := ⟨let ⟨i, a, _, c, _⟩ := info_of inf9; ⟨i, Tryz.underlying81, a, c⟩⟩
instance : TElem Tryz.prog 81 9 1 16 [(.string ByteArray.empty)] := ⟨let ⟨i, a, b, c, d⟩ := info_of inf9; ⟨i, _, Tryz.underlying81, a, c, d, b, rfl, rfl⟩⟩
instance : TZeroC Tryz.prog 83 [(.slice none 0 0)] := ⟨let ⟨i, a, b, _, _⟩ := info_of inf83; ⟨i, _, a, b, rfl⟩⟩
instance : TAgg Tryz.prog 83 1 := ⟨⟨_, Tryz.underlying83, rfl⟩, let ⟨i, a, _, c, _⟩ := info_of inf83; ⟨i, a, c⟩⟩
instance : TFld Tryz.prog 83 0 0 := ⟨let ⟨i, a, _, c, _⟩ := info_of inf81; ⟨_, _, i, Tryz.underlying83, rfl, rfl, a, by rw [c]; decide⟩⟩
instance : TFldV Tryz.prog 83 0 0 := ⟨⟨_, _, _, Tryz.underlying83, rfl, rfl, Tryz.underlying81, rfl⟩⟩
instance : TStruct Tryz.prog 83 [(0, 1)] [(.slice none 0 0)] := ⟨let ⟨i, a, b, _, _⟩ := info_of inf83; ⟨i, _, _, a, b, rfl, Tryz.underlying83, by kernel_rfl⟩⟩
instance : TZeroC Tryz.prog 91 [(.slice none 0 0)] := ⟨let ⟨i, a, b, _, _⟩ := info_of inf91; ⟨i, _, a, b, rfl⟩⟩
instance : TCell Tryz.prog 91 := ⟨⟨_, Tryz.underlying91, rfl⟩, let ⟨i, a, _, c, _⟩ := info_of inf91; ⟨i, a, c⟩⟩
instance : TSlice Tryz.prog 91 5 1 := ⟨let ⟨i, a, _, c, _⟩ := info_of inf5; ⟨i, Tryz.underlying91, a, c⟩⟩
instance : TElem Tryz.prog 91 5 1 1 [(.int .u8 0)] := ⟨let ⟨i, a, b, c, d⟩ := info_of inf5; ⟨i, _, Tryz.underlying91, a, c, d, b, rfl, rfl⟩⟩
instance : TZeroC Tryz.prog 138 [(.int .u64 0)] := ⟨let ⟨i, a, b, _, _⟩ := info_of inf138; ⟨i, _, a, b, rfl⟩⟩
instance : TCell Tryz.prog 138 := ⟨⟨_, Tryz.underlying138, rfl⟩, let ⟨i, a, _, c, _⟩ := info_of inf138; ⟨i, a, c⟩⟩
instance : TInt Tryz.prog 138 .u64 := ⟨Tryz.underlying138⟩
instance : TZeroC Tryz.prog 166 [(.string ByteArray.empty), (.string ByteArray.empty)] := ⟨let ⟨i, a, b, _, _⟩ := info_of inf166; ⟨i, _, a, b, rfl⟩⟩
instance : TAgg Tryz.prog 166 2 := ⟨⟨_, Tryz.underlying166, rfl⟩, let ⟨i, a, _, c, _⟩ := info_of inf166; ⟨i, a, c⟩⟩
instance : TFld Tryz.prog 166 0 0 := ⟨let ⟨i, a, _, c, _⟩ := info_of inf9; ⟨_, _, i, Tryz.underlying166, rfl, rfl, a, by rw [c]; decide⟩⟩
instance : TFld Tryz.prog 166 1 1 := ⟨let ⟨i, a, _, c, _⟩ := info_of inf9; ⟨_, _, i, Tryz.underlying166, rfl, rfl, a, by rw [c]; decide⟩⟩
instance : TFldV Tryz.prog 166 0 0 := ⟨⟨_, _, _, Tryz.underlying166, rfl, rfl, Tryz.underlying9, rfl⟩⟩
instance : TFldV Tryz.prog 166 1 1 := ⟨⟨_, _, _, Tryz.underlying166, rfl, rfl, Tryz.underlying9, rfl⟩⟩
instance : TFlat Tryz.prog 166 [.str, .str] := ⟨⟨_, Tryz.underlying166, by kernel_rfl⟩, by kernel_rfl, by kernel_rfl⟩
instance : TStruct Tryz.prog 166 [(0, 1), (1, 1)] [(.string ByteArray.empty), (.string ByteArray.empty)] := ⟨let ⟨i, a, b, _, _⟩ := info_of inf166; ⟨i, _, _, a, b, rfl, Tryz.underlying166, by kernel_rfl⟩⟩
instance : TZeroC Tryz.prog 167 [(.string ByteArray.empty), (.string ByteArray.empty), (.string ByteArray.empty), (.string ByteArray.empty), (.string ByteArray.empty), (.string ByteArray.empty), (.string ByteArray.empty), (.string ByteArray.empty), (.string ByteArray.empty), (.string ByteArray.empty), (.string ByteArray.empty), (.string ByteArray.empty), (.string ByteArray.empty), (.string ByteArray.empty), (.string ByteArray.empty), (.string ByteArray.empty), (.string ByteArray.empty), (.string ByteArray.empty), (.string ByteArray.empty), (.string ByteArray.empty), (.string ByteArray.empty), (.string ByteArray.empty), (.string ByteArray.empty), (.string ByteArray.empty)] := ⟨let ⟨i, a, b, _, _⟩ := info_of inf167; ⟨i, _, a, b, rfl⟩⟩
instance : TAgg Tryz.prog 167 24 := ⟨⟨_, Tryz.underlying167, rfl⟩, let ⟨i, a, _, c, _⟩ := info_of inf167; ⟨i, a, c⟩⟩
instance : TArr Tryz.prog 167 12 2 := ⟨let ⟨i, a, _, c, _⟩ := info_of inf166; ⟨_, i, Tryz.underlying167, a, c⟩⟩
instance : TZeroC Tryz.prog 168 [.nilFunc] := ⟨let ⟨i, a, b, _, _⟩ := info_of inf168; ⟨i, _, a, b, rfl⟩⟩
instance : TCell Tryz.prog 168 := ⟨⟨_, Tryz.underlying168, rfl⟩, let ⟨i, a, _, c, _⟩ := info_of inf168; ⟨i, a, c⟩⟩
instance : TFunc Tryz.prog 3 := ⟨_, _, Tryz.func3, rfl, by decide⟩
instance : TFunc Tryz.prog 4 := ⟨_, _, Tryz.func4, rfl, by decide⟩
instance : TFunc Tryz.prog 5 := ⟨_, _, Tryz.func5, rfl, by decide⟩
instance : TFunc Tryz.prog 6 := ⟨_, _, Tryz.func6, rfl, by decide⟩
instance : TFunc Tryz.prog 7 := ⟨_, _, Tryz.func7, rfl, by decide⟩
instance : TFunc Tryz.prog 8 := ⟨_, _, Tryz.func8, rfl, by decide⟩
instance : TFunc Tryz.prog 9 := ⟨_, _, Tryz.func9, rfl, by decide⟩
instance : TFunc Tryz.prog 10 := ⟨_, _, Tryz.func10, rfl, by decide⟩
instance : TFunc Tryz.prog 11 := ⟨_, _, Tryz.func11, rfl, by decide⟩
instance : TFunc Tryz.prog 12 := ⟨_, _, Tryz.func12, rfl, by decide⟩
instance : TFunc Tryz.prog 13 := ⟨_, _, Tryz.func13, rfl, by decide⟩
instance : TFunc Tryz.prog 14 := ⟨_, _, Tryz.func14, rfl, by decide⟩
instance : TFunc Tryz.prog 15 := ⟨_, _, Tryz.func15, rfl, by decide⟩
instance : TFunc Tryz.prog 16 := ⟨_, _, Tryz.func16, rfl, by decide⟩
instance : TFunc Tryz.prog 17 := ⟨_, _, Tryz.func17, rfl, by decide⟩
instance : TFunc Tryz.prog 18 := ⟨_, _, Tryz.func18, rfl, by decide⟩
instance : TFunc Tryz.prog 19 := ⟨_, _, Tryz.func19, rfl, by decide⟩
instance : TFunc Tryz.prog 20 := ⟨_, _, Tryz.func20, rfl, by decide⟩
instance : TFunc Tryz.prog 21 := ⟨_, _, Tryz.func21, rfl, by decide⟩
instance : TFunc Tryz.prog 22 := ⟨_, _, Tryz.func22, rfl, by decide⟩
instance : TFunc Tryz.prog 23 := ⟨_, _, Tryz.func23, rfl, by decide⟩
instance : TFunc Tryz.prog 24 := ⟨_, _, Tryz.func24, rfl, by decide⟩
instance : TFunc Tryz.prog 25 := ⟨_, _, Tryz.func25, rfl, by decide⟩
instance : TFunc Tryz.prog 26 := ⟨_, _, Tryz.func26, rfl, by decide⟩
instance : TFunc Tryz.prog 27 := ⟨_, _, Tryz.func27, rfl, by decide⟩
instance : TFunc Tryz.prog 28 := ⟨_, _, Tryz.func28, rfl, by decide⟩
instance : TFunc Tryz.prog 29 := ⟨_, _, Tryz.func29, rfl, by decide⟩
instance : TFunc Tryz.prog 30 := ⟨_, _, Tryz.func30, rfl, by decide⟩
instance : TFunc Tryz.prog 31 := ⟨_, _, Tryz.func31, rfl, by decide⟩
instance : TFunc Tryz.prog 32 := ⟨_, _, Tryz.func32, rfl, by decide⟩
instance : TFunc Tryz.prog 33 := ⟨_, _, Tryz.func33, rfl, by decide⟩
instance : TFunc Tryz.prog 34 := ⟨_, _, Tryz.func34, rfl, by decide⟩
instance : TFunc Tryz.prog 35 := ⟨_, _, Tryz.func35, rfl, by decide⟩
instance : TFunc Tryz.prog 36 := ⟨_, _, Tryz.func36, rfl, by decide⟩
instance : TFunc Tryz.prog 37 := ⟨_, _, Tryz.func37, rfl, by decide⟩
instance : TFunc Tryz.prog 38 := ⟨_, _, Tryz.func38, rfl, by decide⟩
instance : TFunc Tryz.prog 39 := ⟨_, _, Tryz.func39, rfl, by decide⟩
instance : TFunc Tryz.prog 40 := ⟨_, _, Tryz.func40, rfl, by decide⟩
instance : TFunc Tryz.prog 41 := ⟨_, _, Tryz.func41, rfl, by decide⟩
instance : TFunc Tryz.prog 42 := ⟨_, _, Tryz.func42, rfl, by decide⟩
instance : TFunc Tryz.prog 43 := ⟨_, _, Tryz.func43, rfl, by decide⟩
instance : TFunc Tryz.prog 44 := ⟨_, _, Tryz.func44, rfl, by decide⟩
instance : TFunc Tryz.prog 45 := ⟨_, _, Tryz.func45, rfl, by decide⟩
instance : TFunc Tryz.prog 46 := ⟨_, _, Tryz.func46, rfl, by decide⟩
instance : TFunc Tryz.prog 47 := ⟨_, _, Tryz.func47, rfl, by decide⟩
instance : TFunc Tryz.prog 48 := ⟨_, _, Tryz.func48, rfl, by decide⟩
instance : TFunc Tryz.prog 49 := ⟨_, _, Tryz.func49, rfl, by decide⟩
instance : TFunc Tryz.prog 50 := ⟨_, _, Tryz.func50, rfl, by decide⟩
instance : TFunc Tryz.prog 51 := ⟨_, _, Tryz.func51, rfl, by decide⟩
instance : TFunc Tryz.prog 52 := ⟨_, _, Tryz.func52, rfl, by decide⟩
instance : TFunc Tryz.prog 53 := ⟨_, _, Tryz.func53, rfl, by decide⟩
instance : TFunc Tryz.prog 54 := ⟨_, _, Tryz.func54, rfl, by decide⟩
instance : TFunc Tryz.prog 55 := ⟨_, _, Tryz.func55, rfl, by decide⟩
instance : TFunc Tryz.prog 56 := ⟨_, _, Tryz.func56, rfl, by decide⟩
instance : TFunc Tryz.prog 57 := ⟨_, _, Tryz.func57, rfl, by decide⟩
instance : TFunc Tryz.prog 58 := ⟨_, _, Tryz.func58, rfl, by decide⟩
instance : TFunc Tryz.prog 59 := ⟨_, _, Tryz.func59, rfl, by decide⟩
instance : TFunc Tryz.prog 60 := ⟨_, _, Tryz.func60, rfl, by decide⟩
instance : TFunc Tryz.prog 65 := ⟨_, _, Tryz.func65, rfl, by decide⟩
instance : TFunc Tryz.prog 66 := ⟨_, _, Tryz.func66, rfl, by decide⟩
instance : TFunc Tryz.prog 67 := ⟨_, _, Tryz.func67, rfl, by decide⟩
instance : TFunc Tryz.prog 73 := ⟨_, _, Tryz.func73, rfl, by decide⟩
instance : TFunc Tryz.prog 74 := ⟨_, _, Tryz.func74, rfl, by decide⟩
instance : TFunc Tryz.prog 75 := ⟨_, _, Tryz.func75, rfl, by decide⟩
instance : TFunc Tryz.prog 76 := ⟨_, _, Tryz.func76, rfl, by decide⟩
instance : TFunc Tryz.prog 77 := ⟨_, _, Tryz.func77, rfl, by decide⟩
instance : TFunc Tryz.prog 78 := ⟨_, _, Tryz.func78, rfl, by decide⟩
instance : TFunc Tryz.prog 79 := ⟨_, _, Tryz.func79, rfl, by decide⟩
instance : TFunc Tryz.prog 80 := ⟨_, _, Tryz.func80, rfl, by decide⟩
instance : TFunc Tryz.prog 81 := ⟨_, _, Tryz.func81, rfl, by decide⟩
instance : TFunc Tryz.prog 82 := ⟨_, _, Tryz.func82, rfl, by decide⟩
instance : TFunc Tryz.prog 83 := ⟨_, _, Tryz.func83, rfl, by decide⟩
instance : TFunc Tryz.prog 84 := ⟨_, _, Tryz.func84, rfl, by decide⟩
instance : TFunc Tryz.prog 85 := ⟨_, _, Tryz.func85, rfl, by decide⟩
instance : TFunc Tryz.prog 86 := ⟨_, _, Tryz.func86, rfl, by decide⟩
instance : TFunc Tryz.prog 87 := ⟨_, _, Tryz.func87, rfl, by decide⟩
instance : TFunc Tryz.prog 88 := ⟨_, _, Tryz.func88, rfl, by decide⟩
instance : TFunc Tryz.prog 92 := ⟨_, _, Tryz.func92, rfl, by decide⟩
instance : TFunc Tryz.prog 95 := ⟨_, _, Tryz.func95, rfl, by decide⟩
instance : TFunc Tryz.prog 96 := ⟨_, _, Tryz.func96, rfl, by decide⟩
instance : TFunc Tryz.prog 97 := ⟨_, _, Tryz.func97, rfl, by decide⟩
instance : TFunc Tryz.prog 101 := ⟨_, _, Tryz.func101, rfl, by decide⟩
instance : TFunc Tryz.prog 103 := ⟨_, _, Tryz.func103, rfl, by decide⟩
instance : TFunc Tryz.prog 104 := ⟨_, _, Tryz.func104, rfl, by decide⟩
instance : TFunc Tryz.prog 114 := ⟨_, _, Tryz.func114, rfl, by decide⟩
instance : TFunc Tryz.prog 147 := ⟨_, _, Tryz.func147, rfl, by decide⟩
theorem mixed : Tryz.prog.follows .mixedOrders = true := by kernel_rfl
end Go.Proofs.YtgkjnilckmminaaGreatDoor.L
