/-
  Facts on the program's types and functions, by program. Own work.
-/
import Derived.Test.YtdfmflccmnniaaaMap
import Derived.Test.YtdfmflccmnniaaaChecked
import Derived.KernelRfl
namespace Go.Proofs.Ytdfmflccmnniaaa.L
open Go.L
theorem info_of {P : Program} {t : TypeId} {z : Value} {s b : Nat} (h : (P.info? t).map (fun i => (i.zero, i.size, i.bytes)) = some (some z, s, b)) : ∃ i, P.info? t = some i ∧ i.zero = some z ∧ i.size = s ∧ i.bytes = b := by
  cases hi : P.info? t with
  | none => rw [hi] at h; cases h
  | some i => rw [hi] at h; simp only [Option.map_some, Option.some.injEq, Prod.mk.injEq] at h; exact ⟨i, rfl, h.1, h.2.1, h.2.2⟩
theorem inf1 : (Try.prog.info? 1).map (fun i => (i.zero, i.size, i.bytes)) = some (some .nilFunc, 1, 8) := by kernel_rfl
theorem inf2 : (Try.prog.info? 2).map (fun i => (i.zero, i.size, i.bytes)) = some (some (.int .i64 0), 1, 8) := by kernel_rfl
theorem inf3 : (Try.prog.info? 3).map (fun i => (i.zero, i.size, i.bytes)) = some (some (.int .i64 0), 1, 8) := by kernel_rfl
theorem inf4 : (Try.prog.info? 4).map (fun i => (i.zero, i.size, i.bytes)) = some (some (.bool false), 1, 1) := by kernel_rfl
theorem inf5 : (Try.prog.info? 5).map (fun i => (i.zero, i.size, i.bytes)) = some (some (.int .u8 0), 1, 1) := by kernel_rfl
theorem inf7 : (Try.prog.info? 7).map (fun i => (i.zero, i.size, i.bytes)) = some (some (.agg #[(.int .i64 0), (.int .i64 0), (.bool false), (.int .u8 0)]), 4, 24) := by kernel_rfl
theorem inf9 : (Try.prog.info? 9).map (fun i => (i.zero, i.size, i.bytes)) = some (some (.string ByteArray.empty), 1, 16) := by kernel_rfl
theorem inf12 : (Try.prog.info? 12).map (fun i => (i.zero, i.size, i.bytes)) = some (some (.int .u64 0), 1, 8) := by kernel_rfl
theorem inf13 : (Try.prog.info? 13).map (fun i => (i.zero, i.size, i.bytes)) = some (some (.agg #[(.string ByteArray.empty), (.int .u64 0)]), 2, 24) := by kernel_rfl
theorem inf18 : (Try.prog.info? 18).map (fun i => (i.zero, i.size, i.bytes)) = some (some (.agg #[(.pointer none)]), 1, 8) := by kernel_rfl
theorem inf20 : (Try.prog.info? 20).map (fun i => (i.zero, i.size, i.bytes)) = some (some .nilIface, 1, 16) := by kernel_rfl
theorem inf21 : (Try.prog.info? 21).map (fun i => (i.zero, i.size, i.bytes)) = some (some (.int .i32 0), 1, 4) := by kernel_rfl
theorem inf22 : (Try.prog.info? 22).map (fun i => (i.zero, i.size, i.bytes)) = some (some (.slice none 0 0), 1, 24) := by kernel_rfl
theorem inf23 : (Try.prog.info? 23).map (fun i => (i.zero, i.size, i.bytes)) = some (some .nilFunc, 1, 8) := by kernel_rfl
theorem inf24 : (Try.prog.info? 24).map (fun i => (i.zero, i.size, i.bytes)) = some (some (.pointer none), 1, 8) := by kernel_rfl
theorem inf25 : (Try.prog.info? 25).map (fun i => (i.zero, i.size, i.bytes)) = some (some .nilFunc, 1, 8) := by kernel_rfl
theorem inf26 : (Try.prog.info? 26).map (fun i => (i.zero, i.size, i.bytes)) = some (some (.slice none 0 0), 1, 24) := by kernel_rfl
theorem inf28 : (Try.prog.info? 28).map (fun i => (i.zero, i.size, i.bytes)) = some (some .nilFunc, 1, 8) := by kernel_rfl
theorem inf29 : (Try.prog.info? 29).map (fun i => (i.zero, i.size, i.bytes)) = some (some (.int .u64 0), 1, 8) := by kernel_rfl
theorem inf30 : (Try.prog.info? 30).map (fun i => (i.zero, i.size, i.bytes)) = some (some (.agg #[(.int .u8 0), (.int .u64 0), (.int .i64 0)]), 3, 24) := by kernel_rfl
theorem inf31 : (Try.prog.info? 31).map (fun i => (i.zero, i.size, i.bytes)) = some (some (.agg #[(.int .u8 0), (.int .u64 0), (.int .i64 0)]), 3, 24) := by kernel_rfl
theorem inf32 : (Try.prog.info? 32).map (fun i => (i.zero, i.size, i.bytes)) = some (some .nilFunc, 1, 8) := by kernel_rfl
theorem inf33 : (Try.prog.info? 33).map (fun i => (i.zero, i.size, i.bytes)) = some (some .nilFunc, 1, 8) := by kernel_rfl
theorem inf34 : (Try.prog.info? 34).map (fun i => (i.zero, i.size, i.bytes)) = some (some .nilFunc, 1, 8) := by kernel_rfl
theorem inf35 : (Try.prog.info? 35).map (fun i => (i.zero, i.size, i.bytes)) = some (some .nilFunc, 1, 8) := by kernel_rfl
theorem inf36 : (Try.prog.info? 36).map (fun i => (i.zero, i.size, i.bytes)) = some (some .nilFunc, 1, 8) := by kernel_rfl
theorem inf37 : (Try.prog.info? 37).map (fun i => (i.zero, i.size, i.bytes)) = some (some .nilFunc, 1, 8) := by kernel_rfl
theorem inf38 : (Try.prog.info? 38).map (fun i => (i.zero, i.size, i.bytes)) = some (some .nilFunc, 1, 8) := by kernel_rfl
theorem inf39 : (Try.prog.info? 39).map (fun i => (i.zero, i.size, i.bytes)) = some (some .nilFunc, 1, 8) := by kernel_rfl
theorem inf40 : (Try.prog.info? 40).map (fun i => (i.zero, i.size, i.bytes)) = some (some .nilFunc, 1, 8) := by kernel_rfl
theorem inf41 : (Try.prog.info? 41).map (fun i => (i.zero, i.size, i.bytes)) = some (some .nilFunc, 1, 8) := by kernel_rfl
theorem inf42 : (Try.prog.info? 42).map (fun i => (i.zero, i.size, i.bytes)) = some (some (.agg #[(.int .u64 0), (.int .i64 0)]), 2, 16) := by kernel_rfl
theorem inf43 : (Try.prog.info? 43).map (fun i => (i.zero, i.size, i.bytes)) = some (some (.agg #[(.int .u64 0), (.int .i64 0)]), 2, 16) := by kernel_rfl
theorem inf44 : (Try.prog.info? 44).map (fun i => (i.zero, i.size, i.bytes)) = some (some .nilFunc, 1, 8) := by kernel_rfl
theorem inf45 : (Try.prog.info? 45).map (fun i => (i.zero, i.size, i.bytes)) = some (some (.int .i64 0), 1, 8) := by kernel_rfl
theorem inf46 : (Try.prog.info? 46).map (fun i => (i.zero, i.size, i.bytes)) = some (some .nilFunc, 1, 8) := by kernel_rfl
theorem inf47 : (Try.prog.info? 47).map (fun i => (i.zero, i.size, i.bytes)) = some (some .nilFunc, 1, 8) := by kernel_rfl
theorem inf48 : (Try.prog.info? 48).map (fun i => (i.zero, i.size, i.bytes)) = some (some (.map none), 1, 8) := by kernel_rfl
theorem inf49 : (Try.prog.info? 49).map (fun i => (i.zero, i.size, i.bytes)) = some (some (.slice none 0 0), 1, 24) := by kernel_rfl
theorem inf50 : (Try.prog.info? 50).map (fun i => (i.zero, i.size, i.bytes)) = some (some (.agg #[(.int .i64 0), (.int .i64 0), (.int .i64 0), (.int .i64 0), (.int .i64 0), (.int .i64 0), (.int .i64 0), (.int .i64 0), (.int .i64 0)]), 9, 72) := by kernel_rfl
theorem inf51 : (Try.prog.info? 51).map (fun i => (i.zero, i.size, i.bytes)) = some (some (.agg #[(.map none), (.slice none 0 0), (.int .i64 0), (.int .i64 0), (.int .i64 0), (.int .i64 0), (.int .i64 0), (.int .i64 0), (.int .i64 0), (.int .i64 0), (.int .i64 0)]), 11, 104) := by kernel_rfl
theorem inf52 : (Try.prog.info? 52).map (fun i => (i.zero, i.size, i.bytes)) = some (some (.agg #[(.map none), (.slice none 0 0), (.int .i64 0), (.int .i64 0), (.int .i64 0), (.int .i64 0), (.int .i64 0), (.int .i64 0), (.int .i64 0), (.int .i64 0), (.int .i64 0)]), 11, 104) := by kernel_rfl
theorem inf54 : (Try.prog.info? 54).map (fun i => (i.zero, i.size, i.bytes)) = some (some .nilFunc, 1, 8) := by kernel_rfl
theorem inf55 : (Try.prog.info? 55).map (fun i => (i.zero, i.size, i.bytes)) = some (some .nilFunc, 1, 8) := by kernel_rfl
theorem inf56 : (Try.prog.info? 56).map (fun i => (i.zero, i.size, i.bytes)) = some (some .nilFunc, 1, 8) := by kernel_rfl
theorem inf57 : (Try.prog.info? 57).map (fun i => (i.zero, i.size, i.bytes)) = some (some .nilFunc, 1, 8) := by kernel_rfl
theorem inf58 : (Try.prog.info? 58).map (fun i => (i.zero, i.size, i.bytes)) = some (some .nilFunc, 1, 8) := by kernel_rfl
theorem inf59 : (Try.prog.info? 59).map (fun i => (i.zero, i.size, i.bytes)) = some (some (.agg #[(.pointer none), (.pointer none), (.pointer none), (.string ByteArray.empty)]), 4, 40) := by kernel_rfl
theorem inf61 : (Try.prog.info? 61).map (fun i => (i.zero, i.size, i.bytes)) = some (some (.agg #[]), 0, 0) := by kernel_rfl
theorem inf62 : (Try.prog.info? 62).map (fun i => (i.zero, i.size, i.bytes)) = some (some (.agg #[]), 0, 0) := by kernel_rfl
theorem inf64 : (Try.prog.info? 64).map (fun i => (i.zero, i.size, i.bytes)) = some (some .nilFunc, 1, 8) := by kernel_rfl
theorem inf65 : (Try.prog.info? 65).map (fun i => (i.zero, i.size, i.bytes)) = some (some (.int .u32 0), 1, 4) := by kernel_rfl
theorem inf68 : (Try.prog.info? 68).map (fun i => (i.zero, i.size, i.bytes)) = some (some .nilFunc, 1, 8) := by kernel_rfl
theorem inf69 : (Try.prog.info? 69).map (fun i => (i.zero, i.size, i.bytes)) = some (some (.pointer none), 1, 8) := by kernel_rfl
theorem inf72 : (Try.prog.info? 72).map (fun i => (i.zero, i.size, i.bytes)) = some (some (.agg #[(.int .u64 0), (.int .u64 0), (.int .u32 0), (.int .u8 0), (.int .u8 0), (.int .u8 0), (.int .u8 0), .nilFunc, (.pointer none), (.int .i32 0), (.int .i32 0)]), 11, 48) := by kernel_rfl
theorem inf74 : (Try.prog.info? 74).map (fun i => (i.zero, i.size, i.bytes)) = some (some (.pointer none), 1, 8) := by kernel_rfl
instance : TZeroC Try.prog 1 [.nilFunc] := ⟨let ⟨i, a, b, _, _⟩ := info_of inf1; ⟨i, _, a, b, rfl⟩⟩
instance : TCell Try.prog 1 := ⟨⟨_, Try.underlying1, rfl⟩, let ⟨i, a, _, c, _⟩ := info_of inf1; ⟨i, a, c⟩⟩
instance : TZeroC Try.prog 2 [(.int .i64 0)] := ⟨let ⟨i, a, b, _, _⟩ := info_of inf2; ⟨i, _, a, b, rfl⟩⟩
instance : TCell Try.prog 2 := ⟨⟨_, Try.underlying2, rfl⟩, let ⟨i, a, _, c, _⟩ := info_of inf2; ⟨i, a, c⟩⟩
instance : TInt Try.prog 2 .i64 := ⟨Try.underlying2⟩
instance : TZeroC Try.prog 3 [(.int .i64 0)] := ⟨let ⟨i, a, b, _, _⟩ := info_of inf3; ⟨i, _, a, b, rfl⟩⟩
instance : TCell Try.prog 3 := ⟨⟨_, Try.underlying3, rfl⟩, let ⟨i, a, _, c, _⟩ := info_of inf3; ⟨i, a, c⟩⟩
instance : TInt Try.prog 3 .i64 := ⟨Try.underlying3⟩
instance : TZeroC Try.prog 4 [(.bool false)] := ⟨let ⟨i, a, b, _, _⟩ := info_of inf4; ⟨i, _, a, b, rfl⟩⟩
instance : TCell Try.prog 4 := ⟨⟨_, Try.underlying4, rfl⟩, let ⟨i, a, _, c, _⟩ := info_of inf4; ⟨i, a, c⟩⟩
instance : TBool Try.prog 4 := ⟨Try.underlying4⟩
instance : TZeroC Try.prog 5 [(.int .u8 0)] := ⟨let ⟨i, a, b, _, _⟩ := info_of inf5; ⟨i, _, a, b, rfl⟩⟩
instance : TCell Try.prog 5 := ⟨⟨_, Try.underlying5, rfl⟩, let ⟨i, a, _, c, _⟩ := info_of inf5; ⟨i, a, c⟩⟩
instance : TInt Try.prog 5 .u8 := ⟨Try.underlying5⟩
instance : TZeroC Try.prog 7 [(.int .i64 0), (.int .i64 0), (.bool false), (.int .u8 0)] := ⟨let ⟨i, a, b, _, _⟩ := info_of inf7; ⟨i, _, a, b, rfl⟩⟩
instance : TAgg Try.prog 7 4 := ⟨⟨_, Try.underlying7, rfl⟩, let ⟨i, a, _, c, _⟩ := info_of inf7; ⟨i, a, c⟩⟩
instance : TFld Try.prog 7 0 0 := ⟨let ⟨i, a, _, c, _⟩ := info_of inf2; ⟨_, _, i, Try.underlying7, rfl, rfl, a, by rw [c]; decide⟩⟩
instance : TFld Try.prog 7 1 1 := ⟨let ⟨i, a, _, c, _⟩ := info_of inf3; ⟨_, _, i, Try.underlying7, rfl, rfl, a, by rw [c]; decide⟩⟩
instance : TFld Try.prog 7 2 2 := ⟨let ⟨i, a, _, c, _⟩ := info_of inf4; ⟨_, _, i, Try.underlying7, rfl, rfl, a, by rw [c]; decide⟩⟩
instance : TFldV Try.prog 7 0 0 := ⟨⟨_, _, _, Try.underlying7, rfl, rfl, Try.underlying2, rfl⟩⟩
instance : TFldV Try.prog 7 1 1 := ⟨⟨_, _, _, Try.underlying7, rfl, rfl, Try.underlying3, rfl⟩⟩
instance : TFldV Try.prog 7 2 2 := ⟨⟨_, _, _, Try.underlying7, rfl, rfl, Try.underlying4, rfl⟩⟩
instance : TZeroC Try.prog 9 [(.string ByteArray.empty)] := ⟨let ⟨i, a, b, _, _⟩ := info_of inf9; ⟨i, _, a, b, rfl⟩⟩
instance : TCell Try.prog 9 := ⟨⟨_, Try.underlying9, rfl⟩, let ⟨i, a, _, c, _⟩ := info_of inf9; ⟨i, a, c⟩⟩
instance : TStr Try.prog 9 := ⟨Try.underlying9⟩
instance : TZeroC Try.prog 12 [(.int .u64 0)] := ⟨let ⟨i, a, b, _, _⟩ := info_of inf12; ⟨i, _, a, b, rfl⟩⟩
instance : TCell Try.prog 12 := ⟨⟨_, Try.underlying12, rfl⟩, let ⟨i, a, _, c, _⟩ := info_of inf12; ⟨i, a, c⟩⟩
instance : TInt Try.prog 12 .u64 := ⟨Try.underlying12⟩
instance : TZeroC Try.prog 13 [(.string ByteArray.empty), (.int .u64 0)] := ⟨let ⟨i, a, b, _, _⟩ := info_of inf13; ⟨i, _, a, b, rfl⟩⟩
instance : TAgg Try.prog 13 2 := ⟨⟨_, Try.underlying13, rfl⟩, let ⟨i, a, _, c, _⟩ := info_of inf13; ⟨i, a, c⟩⟩
instance : TFld Try.prog 13 0 0 := ⟨let ⟨i, a, _, c, _⟩ := info_of inf9; ⟨_, _, i, Try.underlying13, rfl, rfl, a, by rw [c]; decide⟩⟩
instance : TFld Try.prog 13 1 1 := ⟨let ⟨i, a, _, c, _⟩ := info_of inf12; ⟨_, _, i, Try.underlying13, rfl, rfl, a, by rw [c]; decide⟩⟩
instance : TFldV Try.prog 13 0 0 := ⟨⟨_, _, _, Try.underlying13, rfl, rfl, Try.underlying9, rfl⟩⟩
instance : TFldV Try.prog 13 1 1 := ⟨⟨_, _, _, Try.underlying13, rfl, rfl, Try.underlying12, rfl⟩⟩
instance : TStruct Try.prog 13 [(0, 1), (1, 1)] [(.string ByteArray.empty), (.int .u64 0)] := ⟨let ⟨i, a, b, _, _⟩ := info_of inf13; ⟨i, _, _, a, b, rfl, Try.underlying13, by kernel_rfl⟩⟩
instance : TZeroC Try.prog 18 [(.pointer none)] := ⟨let ⟨i, a, b, _, _⟩ := info_of inf18; ⟨i, _, a, b, rfl⟩⟩
instance : TAgg Try.prog 18 1 := ⟨⟨_, Try.underlying18, rfl⟩, let ⟨i, a, _, c, _⟩ := info_of inf18; ⟨i, a, c⟩⟩
instance : TZeroC Try.prog 20 [.nilIface] := ⟨let ⟨i, a, b, _, _⟩ := info_of inf20; ⟨i, _, a, b, rfl⟩⟩
instance : TCell Try.prog 20 := ⟨⟨_, Try.underlying20, rfl⟩, let ⟨i, a, _, c, _⟩ := info_of inf20; ⟨i, a, c⟩⟩
instance : TZeroC Try.prog 21 [(.int .i32 0)] := ⟨let ⟨i, a, b, _, _⟩ := info_of inf21; ⟨i, _, a, b, rfl⟩⟩
instance : TCell Try.prog 21 := ⟨⟨_, Try.underlying21, rfl⟩, let ⟨i, a, _, c, _⟩ := info_of inf21; ⟨i, a, c⟩⟩
instance : TInt Try.prog 21 .i32 := ⟨Try.underlying21⟩
instance : TZeroC Try.prog 22 [(.slice none 0 0)] := ⟨let ⟨i, a, b, _, _⟩ := info_of inf22; ⟨i, _, a, b, rfl⟩⟩
instance : TCell Try.prog 22 := ⟨⟨_, Try.underlying22, rfl⟩, let ⟨i, a, _, c, _⟩ := info_of inf22; ⟨i, a, c⟩⟩
instance : TSlice Try.prog 22 31 3 := ⟨let ⟨i, a, _, c, _⟩ := info_of inf31; ⟨i, Try.underlying22, a, c⟩⟩
instance : TElem Try.prog 22 31 3 24 [(.int .u8 0), (.int .u64 0), (.int .i64 0)] := ⟨let ⟨i, a, b, c, d⟩ := info_of inf31; ⟨i, _, Try.underlying22, a, c, d, b, rfl, rfl⟩⟩
instance : TZeroC Try.prog 23 [.nilFunc] := ⟨let ⟨i, a, b, _, _⟩ := info_of inf23; ⟨i, _, a, b, rfl⟩⟩
instance : TCell Try.prog 23 := ⟨⟨_, Try.underlying23, rfl⟩, let ⟨i, a, _, c, _⟩ := info_of inf23; ⟨i, a, c⟩⟩
instance : TZeroC Try.prog 24 [(.pointer none)] := ⟨let ⟨i, a, b, _, _⟩ := info_of inf24; ⟨i, _, a, b, rfl⟩⟩
instance : TCell Try.prog 24 := ⟨⟨_, Try.underlying24, rfl⟩, let ⟨i, a, _, c, _⟩ := info_of inf24; ⟨i, a, c⟩⟩
instance : TPtr Try.prog 24 := ⟨_, Try.underlying24⟩
instance : TZeroC Try.prog 25 [.nilFunc] := ⟨let ⟨i, a, b, _, _⟩ := info_of inf25; ⟨i, _, a, b, rfl⟩⟩
instance : TCell Try.prog 25 := ⟨⟨_, Try.underlying25, rfl⟩, let ⟨i, a, _, c, _⟩ := info_of inf25; ⟨i, a, c⟩⟩
instance : TZeroC Try.prog 26 [(.slice none 0 0)] := ⟨let ⟨i, a, b, _, _⟩ := info_of inf26; ⟨i, _, a, b, rfl⟩⟩
instance : TCell Try.prog 26 := ⟨⟨_, Try.underlying26, rfl⟩, let ⟨i, a, _, c, _⟩ := info_of inf26; ⟨i, a, c⟩⟩
instance : TSlice Try.prog 26 43 2 := ⟨let ⟨i, a, _, c, _⟩ := info_of inf43; ⟨i, Try.underlying26, a, c⟩⟩
instance : TElem Try.prog 26 43 2 16 [(.int .u64 0), (.int .i64 0)] := ⟨let ⟨i, a, b, c, d⟩ := info_of inf43; ⟨i, _, Try.underlying26, a, c, d, b, rfl, rfl⟩⟩
instance : TZeroC Try.prog 28 [.nilFunc] := ⟨let ⟨i, a, b, _, _⟩ := info_of inf28; ⟨i, _, a, b, rfl⟩⟩
instance : TCell Try.prog 28 := ⟨⟨_, Try.underlying28, rfl⟩, let ⟨i, a, _, c, _⟩ := info_of inf28; ⟨i, a, c⟩⟩
instance : TZeroC Try.prog 29 [(.int .u64 0)] := ⟨let ⟨i, a, b, _, _⟩ := info_of inf29; ⟨i, _, a, b, rfl⟩⟩
instance : TCell Try.prog 29 := ⟨⟨_, Try.underlying29, rfl⟩, let ⟨i, a, _, c, _⟩ := info_of inf29; ⟨i, a, c⟩⟩
instance : TInt Try.prog 29 .u64 := ⟨Try.underlying29⟩
instance : TZeroC Try.prog 30 [(.int .u8 0), (.int .u64 0), (.int .i64 0)] := ⟨let ⟨i, a, b, _, _⟩ := info_of inf30; ⟨i, _, a, b, rfl⟩⟩
instance : TAgg Try.prog 30 3 := ⟨⟨_, Try.underlying30, rfl⟩, let ⟨i, a, _, c, _⟩ := info_of inf30; ⟨i, a, c⟩⟩
instance : TFld Try.prog 30 0 0 := ⟨let ⟨i, a, _, c, _⟩ := info_of inf5; ⟨_, _, i, Try.underlying30, rfl, rfl, a, by rw [c]; decide⟩⟩
instance : TFld Try.prog 30 1 1 := ⟨let ⟨i, a, _, c, _⟩ := info_of inf29; ⟨_, _, i, Try.underlying30, rfl, rfl, a, by rw [c]; decide⟩⟩
instance : TFld Try.prog 30 2 2 := ⟨let ⟨i, a, _, c, _⟩ := info_of inf3; ⟨_, _, i, Try.underlying30, rfl, rfl, a, by rw [c]; decide⟩⟩
instance : TFldV Try.prog 30 0 0 := ⟨⟨_, _, _, Try.underlying30, rfl, rfl, Try.underlying5, rfl⟩⟩
instance : TFldV Try.prog 30 1 1 := ⟨⟨_, _, _, Try.underlying30, rfl, rfl, Try.underlying29, rfl⟩⟩
instance : TFldV Try.prog 30 2 2 := ⟨⟨_, _, _, Try.underlying30, rfl, rfl, Try.underlying3, rfl⟩⟩
instance : TStruct Try.prog 30 [(0, 1), (1, 1), (2, 1)] [(.int .u8 0), (.int .u64 0), (.int .i64 0)] := ⟨let ⟨i, a, b, _, _⟩ := info_of inf30; ⟨i, _, _, a, b, rfl, Try.underlying30, by kernel_rfl⟩⟩
instance : TZeroC Try.prog 31 [(.int .u8 0), (.int .u64 0), (.int .i64 0)] := ⟨let ⟨i, a, b, _, _⟩ := info_of inf31; ⟨i, _, a, b, rfl⟩⟩
instance : TAgg Try.prog 31 3 := ⟨⟨_, Try.underlying31, rfl⟩, let ⟨i, a, _, c, _⟩ := info_of inf31; ⟨i, a, c⟩⟩
instance : TFld Try.prog 31 0 0 := ⟨let ⟨i, a, _, c, _⟩ := info_of inf5; ⟨_, _, i, Try.underlying31, rfl, rfl, a, by rw [c]; decide⟩⟩
instance : TFld Try.prog 31 1 1 := ⟨let ⟨i, a, _, c, _⟩ := info_of inf29; ⟨_, _, i, Try.underlying31, rfl, rfl, a, by rw [c]; decide⟩⟩
instance : TFld Try.prog 31 2 2 := ⟨let ⟨i, a, _, c, _⟩ := info_of inf3; ⟨_, _, i, Try.underlying31, rfl, rfl, a, by rw [c]; decide⟩⟩
instance : TFldV Try.prog 31 0 0 := ⟨⟨_, _, _, Try.underlying31, rfl, rfl, Try.underlying5, rfl⟩⟩
instance : TFldV Try.prog 31 1 1 := ⟨⟨_, _, _, Try.underlying31, rfl, rfl, Try.underlying29, rfl⟩⟩
instance : TFldV Try.prog 31 2 2 := ⟨⟨_, _, _, Try.underlying31, rfl, rfl, Try.underlying3, rfl⟩⟩
instance : TFlat Try.prog 31 [.int .u8, .int .u64, .int .i64] := ⟨⟨_, Try.underlying31, by kernel_rfl⟩, by kernel_rfl, by kernel_rfl⟩
instance : TStruct Try.prog 31 [(0, 1), (1, 1), (2, 1)] [(.int .u8 0), (.int .u64 0), (.int .i64 0)] := ⟨let ⟨i, a, b, _, _⟩ := info_of inf31; ⟨i, _, _, a, b, rfl, Try.underlying31, by kernel_rfl⟩⟩
instance : TZeroC Try.prog 32 [.nilFunc] := ⟨let ⟨i, a, b, _, _⟩ := info_of inf32; ⟨i, _, a, b, rfl⟩⟩
instance : TCell Try.prog 32 := ⟨⟨_, Try.underlying32, rfl⟩, let ⟨i, a, _, c, _⟩ := info_of inf32; ⟨i, a, c⟩⟩
instance : TZeroC Try.prog 33 [.nilFunc] := ⟨let ⟨i, a, b, _, _⟩ := info_of inf33; ⟨i, _, a, b, rfl⟩⟩
instance : TCell Try.prog 33 := ⟨⟨_, Try.underlying33, rfl⟩, let ⟨i, a, _, c, _⟩ := info_of inf33; ⟨i, a, c⟩⟩
instance : TZeroC Try.prog 34 [.nilFunc] := ⟨let ⟨i, a, b, _, _⟩ := info_of inf34; ⟨i, _, a, b, rfl⟩⟩
instance : TCell Try.prog 34 := ⟨⟨_, Try.underlying34, rfl⟩, let ⟨i, a, _, c, _⟩ := info_of inf34; ⟨i, a, c⟩⟩
instance : TZeroC Try.prog 35 [.nilFunc] := ⟨let ⟨i, a, b, _, _⟩ := info_of inf35; ⟨i, _, a, b, rfl⟩⟩
instance : TCell Try.prog 35 := ⟨⟨_, Try.underlying35, rfl⟩, let ⟨i, a, _, c, _⟩ := info_of inf35; ⟨i, a, c⟩⟩
instance : TZeroC Try.prog 36 [.nilFunc] := ⟨let ⟨i, a, b, _, _⟩ := info_of inf36; ⟨i, _, a, b, rfl⟩⟩
instance : TCell Try.prog 36 := ⟨⟨_, Try.underlying36, rfl⟩, let ⟨i, a, _, c, _⟩ := info_of inf36; ⟨i, a, c⟩⟩
instance : TZeroC Try.prog 37 [.nilFunc] := ⟨let ⟨i, a, b, _, _⟩ := info_of inf37; ⟨i, _, a, b, rfl⟩⟩
instance : TCell Try.prog 37 := ⟨⟨_, Try.underlying37, rfl⟩, let ⟨i, a, _, c, _⟩ := info_of inf37; ⟨i, a, c⟩⟩
instance : TZeroC Try.prog 38 [.nilFunc] := ⟨let ⟨i, a, b, _, _⟩ := info_of inf38; ⟨i, _, a, b, rfl⟩⟩
instance : TCell Try.prog 38 := ⟨⟨_, Try.underlying38, rfl⟩, let ⟨i, a, _, c, _⟩ := info_of inf38; ⟨i, a, c⟩⟩
instance : TZeroC Try.prog 39 [.nilFunc] := ⟨let ⟨i, a, b, _, _⟩ := info_of inf39; ⟨i, _, a, b, rfl⟩⟩
instance : TCell Try.prog 39 := ⟨⟨_, Try.underlying39, rfl⟩, let ⟨i, a, _, c, _⟩ := info_of inf39; ⟨i, a, c⟩⟩
instance : TZeroC Try.prog 40 [.nilFunc] := ⟨let ⟨i, a, b, _, _⟩ := info_of inf40; ⟨i, _, a, b, rfl⟩⟩
instance : TCell Try.prog 40 := ⟨⟨_, Try.underlying40, rfl⟩, let ⟨i, a, _, c, _⟩ := info_of inf40; ⟨i, a, c⟩⟩
instance : TZeroC Try.prog 41 [.nilFunc] := ⟨let ⟨i, a, b, _, _⟩ := info_of inf41; ⟨i, _, a, b, rfl⟩⟩
instance : TCell Try.prog 41 := ⟨⟨_, Try.underlying41, rfl⟩, let ⟨i, a, _, c, _⟩ := info_of inf41; ⟨i, a, c⟩⟩
instance : TZeroC Try.prog 42 [(.int .u64 0), (.int .i64 0)] := ⟨let ⟨i, a, b, _, _⟩ := info_of inf42; ⟨i, _, a, b, rfl⟩⟩
instance : TAgg Try.prog 42 2 := ⟨⟨_, Try.underlying42, rfl⟩, let ⟨i, a, _, c, _⟩ := info_of inf42; ⟨i, a, c⟩⟩
instance : TFld Try.prog 42 0 0 := ⟨let ⟨i, a, _, c, _⟩ := info_of inf29; ⟨_, _, i, Try.underlying42, rfl, rfl, a, by rw [c]; decide⟩⟩
instance : TFld Try.prog 42 1 1 := ⟨let ⟨i, a, _, c, _⟩ := info_of inf3; ⟨_, _, i, Try.underlying42, rfl, rfl, a, by rw [c]; decide⟩⟩
instance : TFldV Try.prog 42 0 0 := ⟨⟨_, _, _, Try.underlying42, rfl, rfl, Try.underlying29, rfl⟩⟩
instance : TFldV Try.prog 42 1 1 := ⟨⟨_, _, _, Try.underlying42, rfl, rfl, Try.underlying3, rfl⟩⟩
instance : TStruct Try.prog 42 [(0, 1), (1, 1)] [(.int .u64 0), (.int .i64 0)] := ⟨let ⟨i, a, b, _, _⟩ := info_of inf42; ⟨i, _, _, a, b, rfl, Try.underlying42, by kernel_rfl⟩⟩
instance : TZeroC Try.prog 43 [(.int .u64 0), (.int .i64 0)] := ⟨let ⟨i, a, b, _, _⟩ := info_of inf43; ⟨i, _, a, b, rfl⟩⟩
instance : TAgg Try.prog 43 2 := ⟨⟨_, Try.underlying43, rfl⟩, let ⟨i, a, _, c, _⟩ := info_of inf43; ⟨i, a, c⟩⟩
instance : TFld Try.prog 43 0 0 := ⟨let ⟨i, a, _, c, _⟩ := info_of inf29; ⟨_, _, i, Try.underlying43, rfl, rfl, a, by rw [c]; decide⟩⟩
instance : TFld Try.prog 43 1 1 := ⟨let ⟨i, a, _, c, _⟩ := info_of inf3; ⟨_, _, i, Try.underlying43, rfl, rfl, a, by rw [c]; decide⟩⟩
instance : TFldV Try.prog 43 0 0 := ⟨⟨_, _, _, Try.underlying43, rfl, rfl, Try.underlying29, rfl⟩⟩
instance : TFldV Try.prog 43 1 1 := ⟨⟨_, _, _, Try.underlying43, rfl, rfl, Try.underlying3, rfl⟩⟩
instance : TFlat Try.prog 43 [.int .u64, .int .i64] := ⟨⟨_, Try.underlying43, by kernel_rfl⟩, by kernel_rfl, by kernel_rfl⟩
instance : TStruct Try.prog 43 [(0, 1), (1, 1)] [(.int .u64 0), (.int .i64 0)] := ⟨let ⟨i, a, b, _, _⟩ := info_of inf43; ⟨i, _, _, a, b, rfl, Try.underlying43, by kernel_rfl⟩⟩
instance : TZeroC Try.prog 44 [.nilFunc] := ⟨let ⟨i, a, b, _, _⟩ := info_of inf44; ⟨i, _, a, b, rfl⟩⟩
instance : TCell Try.prog 44 := ⟨⟨_, Try.underlying44, rfl⟩, let ⟨i, a, _, c, _⟩ := info_of inf44; ⟨i, a, c⟩⟩
instance : TZeroC Try.prog 45 [(.int .i64 0)] := ⟨let ⟨i, a, b, _, _⟩ := info_of inf45; ⟨i, _, a, b, rfl⟩⟩
instance : TCell Try.prog 45 := ⟨⟨_, Try.underlying45, rfl⟩, let ⟨i, a, _, c, _⟩ := info_of inf45; ⟨i, a, c⟩⟩
instance : TInt Try.prog 45 .i64 := ⟨Try.underlying45⟩
instance : TZeroC Try.prog 46 [.nilFunc] := ⟨let ⟨i, a, b, _, _⟩ := info_of inf46; ⟨i, _, a, b, rfl⟩⟩
instance : TCell Try.prog 46 := ⟨⟨_, Try.underlying46, rfl⟩, let ⟨i, a, _, c, _⟩ := info_of inf46; ⟨i, a, c⟩⟩
instance : TZeroC Try.prog 47 [.nilFunc] := ⟨let ⟨i, a, b, _, _⟩ := info_of inf47; ⟨i, _, a, b, rfl⟩⟩
instance : TCell Try.prog 47 := ⟨⟨_, Try.underlying47, rfl⟩, let ⟨i, a, _, c, _⟩ := info_of inf47; ⟨i, a, c⟩⟩
instance : TZeroC Try.prog 48 [(.map none)] := ⟨let ⟨i, a, b, _, _⟩ := info_of inf48; ⟨i, _, a, b, rfl⟩⟩
instance : TCell Try.prog 48 := ⟨⟨_, Try.underlying48, rfl⟩, let ⟨i, a, _, c, _⟩ := info_of inf48; ⟨i, a, c⟩⟩
instance : TMap Try.prog 48 .u64 (.int .i64 0) := ⟨let ⟨i, a, b, _, _⟩ := info_of inf3; ⟨_, _, i, Try.underlying48, Try.underlying29, a, b⟩⟩
instance : TZeroC Try.prog 49 [(.slice none 0 0)] := ⟨let ⟨i, a, b, _, _⟩ := info_of inf49; ⟨i, _, a, b, rfl⟩⟩
instance : TCell Try.prog 49 := ⟨⟨_, Try.underlying49, rfl⟩, let ⟨i, a, _, c, _⟩ := info_of inf49; ⟨i, a, c⟩⟩
instance : TSlice Try.prog 49 29 1 := ⟨let ⟨i, a, _, c, _⟩ := info_of inf29; ⟨i, Try.underlying49, a, c⟩⟩
instance : TElem Try.prog 49 29 1 8 [(.int .u64 0)] := ⟨let ⟨i, a, b, c, d⟩ := info_of inf29; ⟨i, _, Try.underlying49, a, c, d, b, rfl, rfl⟩⟩
instance : TZeroC Try.prog 50 [(.int .i64 0), (.int .i64 0), (.int .i64 0), (.int .i64 0), (.int .i64 0), (.int .i64 0), (.int .i64 0), (.int .i64 0), (.int .i64 0)] := ⟨let ⟨i, a, b, _, _⟩ := info_of inf50; ⟨i, _, a, b, rfl⟩⟩
instance : TAgg Try.prog 50 9 := ⟨⟨_, Try.underlying50, rfl⟩, let ⟨i, a, _, c, _⟩ := info_of inf50; ⟨i, a, c⟩⟩
instance : TArr Try.prog 50 9 1 := ⟨let ⟨i, a, _, c, _⟩ := info_of inf3; ⟨_, i, Try.underlying50, a, c⟩⟩
instance : TZeroC Try.prog 51 [(.map none), (.slice none 0 0), (.int .i64 0), (.int .i64 0), (.int .i64 0), (.int .i64 0), (.int .i64 0), (.int .i64 0), (.int .i64 0), (.int .i64 0), (.int .i64 0)] := ⟨let ⟨i, a, b, _, _⟩ := info_of inf51; ⟨i, _, a, b, rfl⟩⟩
instance : TAgg Try.prog 51 11 := ⟨⟨_, Try.underlying51, rfl⟩, let ⟨i, a, _, c, _⟩ := info_of inf51; ⟨i, a, c⟩⟩
instance : TFld Try.prog 51 0 0 := ⟨let ⟨i, a, _, c, _⟩ := info_of inf48; ⟨_, _, i, Try.underlying51, rfl, rfl, a, by rw [c]; decide⟩⟩
instance : TFld Try.prog 51 1 1 := ⟨let ⟨i, a, _, c, _⟩ := info_of inf49; ⟨_, _, i, Try.underlying51, rfl, rfl, a, by rw [c]; decide⟩⟩
instance : TFld Try.prog 51 2 2 := ⟨let ⟨i, a, _, c, _⟩ := info_of inf50; ⟨_, _, i, Try.underlying51, rfl, rfl, a, by rw [c]; decide⟩⟩
instance : TFldV Try.prog 51 0 0 := ⟨⟨_, _, _, Try.underlying51, rfl, rfl, Try.underlying48, rfl⟩⟩
instance : TFldV Try.prog 51 1 1 := ⟨⟨_, _, _, Try.underlying51, rfl, rfl, Try.underlying49, rfl⟩⟩
instance : TFldA Try.prog 51 2 2 9 := ⟨let ⟨i, a, _, c, _⟩ := info_of inf50; ⟨_, _, _, i, Try.underlying51, rfl, rfl, Try.underlying50, rfl, a, c⟩⟩
instance : TStruct Try.prog 51 [(0, 1), (1, 1), (2, 9)] [(.map none), (.slice none 0 0), (.int .i64 0), (.int .i64 0), (.int .i64 0), (.int .i64 0), (.int .i64 0), (.int .i64 0), (.int .i64 0), (.int .i64 0), (.int .i64 0)] := ⟨let ⟨i, a, b, _, _⟩ := info_of inf51; ⟨i, _, _, a, b, rfl, Try.underlying51, by kernel_rfl⟩⟩
instance : TZeroC Try.prog 52 [(.map none), (.slice none 0 0), (.int .i64 0), (.int .i64 0), (.int .i64 0), (.int .i64 0), (.int .i64 0), (.int .i64 0), (.int .i64 0), (.int .i64 0), (.int .i64 0)] := ⟨let ⟨i, a, b, _, _⟩ := info_of inf52; ⟨i, _, a, b, rfl⟩⟩
instance : TAgg Try.prog 52 11 := ⟨⟨_, Try.underlying52, rfl⟩, let ⟨i, a, _, c, _⟩ := info_of inf52; ⟨i, a, c⟩⟩
instance : TFld Try.prog 52 0 0 := ⟨let ⟨i, a, _, c, _⟩ := info_of inf48; ⟨_, _, i, Try.underlying52, rfl, rfl, a, by rw [c]; decide⟩⟩
instance : TFld Try.prog 52 1 1 := ⟨let ⟨i, a, _, c, _⟩ := info_of inf49; ⟨_, _, i, Try.underlying52, rfl, rfl, a, by rw [c]; decide⟩⟩
instance : TFld Try.prog 52 2 2 := ⟨let ⟨i, a, _, c, _⟩ := info_of inf50; ⟨_, _, i, Try.underlying52, rfl, rfl, a, by rw [c]; decide⟩⟩
instance : TFldV Try.prog 52 0 0 := ⟨⟨_, _, _, Try.underlying52, rfl, rfl, Try.underlying48, rfl⟩⟩
instance : TFldV Try.prog 52 1 1 := ⟨⟨_, _, _, Try.underlying52, rfl, rfl, Try.underlying49, rfl⟩⟩
instance : TFldA Try.prog 52 2 2 9 := ⟨let ⟨i, a, _, c, _⟩ := info_of inf50; ⟨_, _, _, i, Try.underlying52, rfl, rfl, Try.underlying50, rfl, a, c⟩⟩
instance : TStruct Try.prog 52 [(0, 1), (1, 1), (2, 9)] [(.map none), (.slice none 0 0), (.int .i64 0), (.int .i64 0), (.int .i64 0), (.int .i64 0), (.int .i64 0), (.int .i64 0), (.int .i64 0), (.int .i64 0), (.int .i64 0)] := ⟨let ⟨i, a, b, _, _⟩ := info_of inf52; ⟨i, _, _, a, b, rfl, Try.underlying52, by kernel_rfl⟩⟩
instance : TZeroC Try.prog 54 [.nilFunc] := ⟨let ⟨i, a, b, _, _⟩ := info_of inf54; ⟨i, _, a, b, rfl⟩⟩
instance : TCell Try.prog 54 := ⟨⟨_, Try.underlying54, rfl⟩, let ⟨i, a, _, c, _⟩ := info_of inf54; ⟨i, a, c⟩⟩
instance : TZeroC Try.prog 55 [.nilFunc] := ⟨let ⟨i, a, b, _, _⟩ := info_of inf55; ⟨i, _, a, b, rfl⟩⟩
instance : TCell Try.prog 55 := ⟨⟨_, Try.underlying55, rfl⟩, let ⟨i, a, _, c, _⟩ := info_of inf55; ⟨i, a, c⟩⟩
instance : TZeroC Try.prog 56 [.nilFunc] := ⟨let ⟨i, a, b, _, _⟩ := info_of inf56; ⟨i, _, a, b, rfl⟩⟩
instance : TCell Try.prog 56 := ⟨⟨_, Try.underlying56, rfl⟩, let ⟨i, a, _, c, _⟩ := info_of inf56; ⟨i, a, c⟩⟩
instance : TZeroC Try.prog 57 [.nilFunc] := ⟨let ⟨i, a, b, _, _⟩ := info_of inf57; ⟨i, _, a, b, rfl⟩⟩
instance : TCell Try.prog 57 := ⟨⟨_, Try.underlying57, rfl⟩, let ⟨i, a, _, c, _⟩ := info_of inf57; ⟨i, a, c⟩⟩
instance : TZeroC Try.prog 58 [.nilFunc] := ⟨let ⟨i, a, b, _, _⟩ := info_of inf58; ⟨i, _, a, b, rfl⟩⟩
instance : TCell Try.prog 58 := ⟨⟨_, Try.underlying58, rfl⟩, let ⟨i, a, _, c, _⟩ := info_of inf58; ⟨i, a, c⟩⟩
instance : TZeroC Try.prog 59 [(.pointer none), (.pointer none), (.pointer none), (.string ByteArray.empty)] := ⟨let ⟨i, a, b, _, _⟩ := info_of inf59; ⟨i, _, a, b, rfl⟩⟩
instance : TAgg Try.prog 59 4 := ⟨⟨_, Try.underlying59, rfl⟩, let ⟨i, a, _, c, _⟩ := info_of inf59; ⟨i, a, c⟩⟩
instance : TFld Try.prog 59 3 3 := ⟨let ⟨i, a, _, c, _⟩ := info_of inf9; ⟨_, _, i, Try.underlying59, rfl, rfl, a, by rw [c]; decide⟩⟩
instance : TFldV Try.prog 59 3 3 := ⟨⟨_, _, _, Try.underlying59, rfl, rfl, Try.underlying9, rfl⟩⟩
instance : TZeroC Try.prog 61 [] := ⟨let ⟨i, a, b, _, _⟩ := info_of inf61; ⟨i, _, a, b, rfl⟩⟩
instance : TAgg Try.prog 61 0 := ⟨⟨_, Try.underlying61, rfl⟩, let ⟨i, a, _, c, _⟩ := info_of inf61; ⟨i, a, c⟩⟩
instance : TZeroC Try.prog 62 [] := ⟨let ⟨i, a, b, _, _⟩ := info_of inf62; ⟨i, _, a, b, rfl⟩⟩
instance : TAgg Try.prog 62 0 := ⟨⟨_, Try.underlying62, rfl⟩, let ⟨i, a, _, c, _⟩ := info_of inf62; ⟨i, a, c⟩⟩
instance : TFldA Try.prog 62 0 0 0 := ⟨let ⟨i, a, _, c, _⟩ := info_of inf61; ⟨_, _, _, i, Try.underlying62, rfl, rfl, Try.underlying61, rfl, a, c⟩⟩
instance : TStruct Try.prog 62 [(0, 0)] [] := ⟨let ⟨i, a, b, _, _⟩ := info_of inf62; ⟨i, _, _, a, b, rfl, Try.underlying62, by kernel_rfl⟩⟩
instance : TZeroC Try.prog 64 [.nilFunc] := ⟨let ⟨i, a, b, _, _⟩ := info_of inf64; ⟨i, _, a, b, rfl⟩⟩
instance : TCell Try.prog 64 := ⟨⟨_, Try.underlying64, rfl⟩, let ⟨i, a, _, c, _⟩ := info_of inf64; ⟨i, a, c⟩⟩
instance : TZeroC Try.prog 65 [(.int .u32 0)] := ⟨let ⟨i, a, b, _, _⟩ := info_of inf65; ⟨i, _, a, b, rfl⟩⟩
instance : TCell Try.prog 65 := ⟨⟨_, Try.underlying65, rfl⟩, let ⟨i, a, _, c, _⟩ := info_of inf65; ⟨i, a, c⟩⟩
instance : TInt Try.prog 65 .u32 := ⟨Try.underlying65⟩
instance : TZeroC Try.prog 68 [.nilFunc] := ⟨let ⟨i, a, b, _, _⟩ := info_of inf68; ⟨i, _, a, b, rfl⟩⟩
instance : TCell Try.prog 68 := ⟨⟨_, Try.underlying68, rfl⟩, let ⟨i, a, _, c, _⟩ := info_of inf68; ⟨i, a, c⟩⟩
instance : TZeroC Try.prog 69 [(.pointer none)] := ⟨let ⟨i, a, b, _, _⟩ := info_of inf69; ⟨i, _, a, b, rfl⟩⟩
instance : TCell Try.prog 69 := ⟨⟨_, Try.underlying69, rfl⟩, let ⟨i, a, _, c, _⟩ := info_of inf69; ⟨i, a, c⟩⟩
instance : TPtr Try.prog 69 := ⟨_, Try.underlying69⟩
instance : TZeroC Try.prog 72 [(.int .u64 0), (.int .u64 0), (.int .u32 0), (.int .u8 0), (.int .u8 0), (.int .u8 0), (.int .u8 0), .nilFunc, (.pointer none), (.int .i32 0), (.int .i32 0)] := ⟨let ⟨i, a, b, _, _⟩ := info_of inf72; ⟨i, _, a, b, rfl⟩⟩
instance : TAgg Try.prog 72 11 := ⟨⟨_, Try.underlying72, rfl⟩, let ⟨i, a, _, c, _⟩ := info_of inf72; ⟨i, a, c⟩⟩
instance : TFld Try.prog 72 0 0 := ⟨let ⟨i, a, _, c, _⟩ := info_of inf12; ⟨_, _, i, Try.underlying72, rfl, rfl, a, by rw [c]; decide⟩⟩
instance : TFld Try.prog 72 1 1 := ⟨let ⟨i, a, _, c, _⟩ := info_of inf12; ⟨_, _, i, Try.underlying72, rfl, rfl, a, by rw [c]; decide⟩⟩
instance : TFld Try.prog 72 2 2 := ⟨let ⟨i, a, _, c, _⟩ := info_of inf65; ⟨_, _, i, Try.underlying72, rfl, rfl, a, by rw [c]; decide⟩⟩
instance : TFld Try.prog 72 4 4 := ⟨let ⟨i, a, _, c, _⟩ := info_of inf5; ⟨_, _, i, Try.underlying72, rfl, rfl, a, by rw [c]; decide⟩⟩
instance : TFld Try.prog 72 5 5 := ⟨let ⟨i, a, _, c, _⟩ := info_of inf5; ⟨_, _, i, Try.underlying72, rfl, rfl, a, by rw [c]; decide⟩⟩
instance : TFld Try.prog 72 7 7 := ⟨let ⟨i, a, _, c, _⟩ := info_of inf68; ⟨_, _, i, Try.underlying72, rfl, rfl, a, by rw [c]; decide⟩⟩
instance : TFld Try.prog 72 8 8 := ⟨let ⟨i, a, _, c, _⟩ := info_of inf69; ⟨_, _, i, Try.underlying72, rfl, rfl, a, by rw [c]; decide⟩⟩
instance : TFldV Try.prog 72 0 0 := ⟨⟨_, _, _, Try.underlying72, rfl, rfl, Try.underlying12, rfl⟩⟩
instance : TFldV Try.prog 72 1 1 := ⟨⟨_, _, _, Try.underlying72, rfl, rfl, Try.underlying12, rfl⟩⟩
instance : TFldV Try.prog 72 2 2 := ⟨⟨_, _, _, Try.underlying72, rfl, rfl, Try.underlying65, rfl⟩⟩
instance : TFldV Try.prog 72 4 4 := ⟨⟨_, _, _, Try.underlying72, rfl, rfl, Try.underlying5, rfl⟩⟩
instance : TFldV Try.prog 72 5 5 := ⟨⟨_, _, _, Try.underlying72, rfl, rfl, Try.underlying5, rfl⟩⟩
instance : TFldV Try.prog 72 7 7 := ⟨⟨_, _, _, Try.underlying72, rfl, rfl, Try.underlying68, rfl⟩⟩
instance : TFldV Try.prog 72 8 8 := ⟨⟨_, _, _, Try.underlying72, rfl, rfl, Try.underlying69, rfl⟩⟩
instance : TZeroC Try.prog 74 [(.pointer none)] := ⟨let ⟨i, a, b, _, _⟩ := info_of inf74; ⟨i, _, a, b, rfl⟩⟩
instance : TCell Try.prog 74 := ⟨⟨_, Try.underlying74, rfl⟩, let ⟨i, a, _, c, _⟩ := info_of inf74; ⟨i, a, c⟩⟩
instance : TFunc Try.prog 2 := ⟨_, _, Try.func2, rfl, by decide⟩
instance : TFunc Try.prog 3 := ⟨_, _, Try.func3, rfl, by decide⟩
instance : TFunc Try.prog 4 := ⟨_, _, Try.func4, rfl, by decide⟩
instance : TFunc Try.prog 5 := ⟨_, _, Try.func5, rfl, by decide⟩
instance : TFunc Try.prog 6 := ⟨_, _, Try.func6, rfl, by decide⟩
instance : TFunc Try.prog 7 := ⟨_, _, Try.func7, rfl, by decide⟩
instance : TFunc Try.prog 8 := ⟨_, _, Try.func8, rfl, by decide⟩
instance : TFunc Try.prog 9 := ⟨_, _, Try.func9, rfl, by decide⟩
instance : TFunc Try.prog 10 := ⟨_, _, Try.func10, rfl, by decide⟩
instance : TFunc Try.prog 11 := ⟨_, _, Try.func11, rfl, by decide⟩
instance : TFunc Try.prog 12 := ⟨_, _, Try.func12, rfl, by decide⟩
instance : TFunc Try.prog 13 := ⟨_, _, Try.func13, rfl, by decide⟩
instance : TFunc Try.prog 14 := ⟨_, _, Try.func14, rfl, by decide⟩
instance : TFunc Try.prog 15 := ⟨_, _, Try.func15, rfl, by decide⟩
instance : TFunc Try.prog 16 := ⟨_, _, Try.func16, rfl, by decide⟩
instance : TFunc Try.prog 17 := ⟨_, _, Try.func17, rfl, by decide⟩
instance : TFunc Try.prog 18 := ⟨_, _, Try.func18, rfl, by decide⟩
instance : TFunc Try.prog 19 := ⟨_, _, Try.func19, rfl, by decide⟩
instance : TFunc Try.prog 20 := ⟨_, _, Try.func20, rfl, by decide⟩
instance : TFunc Try.prog 21 := ⟨_, _, Try.func21, rfl, by decide⟩
instance : TFunc Try.prog 22 := ⟨_, _, Try.func22, rfl, by decide⟩
instance : TFunc Try.prog 23 := ⟨_, _, Try.func23, rfl, by decide⟩
instance : TFunc Try.prog 24 := ⟨_, _, Try.func24, rfl, by decide⟩
instance : TFunc Try.prog 25 := ⟨_, _, Try.func25, rfl, by decide⟩
instance : TFunc Try.prog 26 := ⟨_, _, Try.func26, rfl, by decide⟩
instance : TFunc Try.prog 27 := ⟨_, _, Try.func27, rfl, by decide⟩
instance : TFunc Try.prog 28 := ⟨_, _, Try.func28, rfl, by decide⟩
instance : TFunc Try.prog 29 := ⟨_, _, Try.func29, rfl, by decide⟩
theorem mixed : Try.prog.follows .mixedOrders = true := by kernel_rfl
end Go.Proofs.Ytdfmflccmnniaaa.L
