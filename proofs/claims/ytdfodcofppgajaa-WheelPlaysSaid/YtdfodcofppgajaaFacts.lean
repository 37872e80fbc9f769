/-
  Facts on the program's types and functions, by program. Own work.
-/
import Derived.Test.YtdfodcofppgajaaMap
import Derived.Test.YtdfodcofppgajaaChecked
import Derived.KernelRfl
namespace Go.Proofs.Ytdfodcofppgajaa.L
open Go.L
theorem info_of {P : Program} {t : TypeId} {z : Value} {s b : Nat} (h : (P.info? t).map (fun i => (i.zero, i.size, i.bytes)) = some (some z, s, b)) : ∃ i, P.info? t = some i ∧ i.zero = some z ∧ i.size = s ∧ i.bytes = b := by
  cases hi : P.info? t with
  | none => rw [hi] at h; cases h
  | some i => rw [hi] at h; simp only [Option.map_some, Option.some.injEq, Prod.mk.injEq] at h; exact ⟨i, rfl, h.1, h.2.1, h.2.2⟩
theorem inf1 : (Try.prog.info? 1).map (fun i => (i.zero, i.size, i.bytes)) = some (some .nilFunc, 1, 8) := by kernel_rfl
theorem inf2 : (Try.prog.info? 2).map (fun i => (i.zero, i.size, i.bytes)) = some (some (.int .i64 0), 1, 8) := by kernel_rfl
theorem inf3 : (Try.prog.info? 3).map (fun i => (i.zero, i.size, i.bytes)) = some (some (.int .i64 0), 1, 8) := by kernel_rfl
theorem inf4 : (Try.prog.info? 4).map (fun i => (i.zero, i.size, i.bytes)) = some (some (.bool false), 1, 1) := by kernel_rfl
theorem inf5 : (Try.prog.info? 5).map (fun i => (i.zero, i.size, i.bytes)) = some (some (.int .u8 0), 1, 1) := by kernel_rfl
theorem inf7 : (Try.prog.info? 7).map (fun i => (i.zero, i.size, i.bytes)) = some (some (.agg #[(.int .i64 0), (.int .i64 0), (.bool false), (.int .u8 0)]), 4, 24) := by kernel_rfl
theorem inf9 : (Try.prog.info? 9).map (fun i => (i.zero, i.size, i.bytes)) = some (some (.string ByteArray.empty), 1, 16) := by kernel_rfl
theorem inf12 : (Try.prog.info? 12).map (fun i => (i.zero, i.size, i.bytes)) = some (some (.int .u64 0), 1, 8) := by kernel_rfl
theorem inf13 : (Try.prog.info? 13).map (fun i => (i.zero, i.size, i.bytes)) = some (some (.agg #[(.string ByteArray.empty), (.int .u64 0)]), 2, 24) := by kernel_rfl
theorem inf18 : (Try.prog.info? 18).map (fun i => (i.zero, i.size, i.bytes)) = some (some (.agg #[(.pointer none)]), 1, 8) := by kernel_rfl
theorem inf20 : (Try.prog.info? 20).map (fun i => (i.zero, i.size, i.bytes)) = some (some .nilIface, 1, 16) := by kernel_rfl
theorem inf21 : (Try.prog.info? 21).map (fun i => (i.zero, i.size, i.bytes)) = some (some (.int .i32 0), 1, 4) := by kernel_rfl
theorem inf22 : (Try.prog.info? 22).map (fun i => (i.zero, i.size, i.bytes)) = some (some (.slice none 0 0), 1, 24) := by kernel_rfl
theorem inf23 : (Try.prog.info? 23).map (fun i => (i.zero, i.size, i.bytes)) = some (some .nilFunc, 1, 8) := by kernel_rfl
theorem inf24 : (Try.prog.info? 24).map (fun i => (i.zero, i.size, i.bytes)) = some (some (.pointer none), 1, 8) := by kernel_rfl
theorem inf25 : (Try.prog.info? 25).map (fun i => (i.zero, i.size, i.bytes)) = some (some .nilFunc, 1, 8) := by kernel_rfl
theorem inf26 : (Try.prog.info? 26).map (fun i => (i.zero, i.size, i.bytes)) = some (some .nilFunc, 1, 8) := by kernel_rfl
theorem inf27 : (Try.prog.info? 27).map (fun i => (i.zero, i.size, i.bytes)) = some (some (.slice none 0 0), 1, 24) := by kernel_rfl
theorem inf28 : (Try.prog.info? 28).map (fun i => (i.zero, i.size, i.bytes)) = some (some .nilFunc, 1, 8) := by kernel_rfl
theorem inf29 : (Try.prog.info? 29).map (fun i => (i.zero, i.size, i.bytes)) = some (some (.int .i64 0), 1, 8) := by kernel_rfl
theorem inf30 : (Try.prog.info? 30).map (fun i => (i.zero, i.size, i.bytes)) = some (some .nilFunc, 1, 8) := by kernel_rfl
theorem inf31 : (Try.prog.info? 31).map (fun i => (i.zero, i.size, i.bytes)) = some (some (.int .u64 0), 1, 8) := by kernel_rfl
theorem inf32 : (Try.prog.info? 32).map (fun i => (i.zero, i.size, i.bytes)) = some (some .nilFunc, 1, 8) := by kernel_rfl
theorem inf33 : (Try.prog.info? 33).map (fun i => (i.zero, i.size, i.bytes)) = some (some .nilFunc, 1, 8) := by kernel_rfl
theorem inf35 : (Try.prog.info? 35).map (fun i => (i.zero, i.size, i.bytes)) = some (some .nilFunc, 1, 8) := by kernel_rfl
theorem inf36 : (Try.prog.info? 36).map (fun i => (i.zero, i.size, i.bytes)) = some (some .nilFunc, 1, 8) := by kernel_rfl
theorem inf38 : (Try.prog.info? 38).map (fun i => (i.zero, i.size, i.bytes)) = some (some .nilFunc, 1, 8) := by kernel_rfl
theorem inf39 : (Try.prog.info? 39).map (fun i => (i.zero, i.size, i.bytes)) = some (some .nilFunc, 1, 8) := by kernel_rfl
theorem inf40 : (Try.prog.info? 40).map (fun i => (i.zero, i.size, i.bytes)) = some (some (.slice none 0 0), 1, 24) := by kernel_rfl
theorem inf41 : (Try.prog.info? 41).map (fun i => (i.zero, i.size, i.bytes)) = some (some .nilFunc, 1, 8) := by kernel_rfl
theorem inf42 : (Try.prog.info? 42).map (fun i => (i.zero, i.size, i.bytes)) = some (some .nilFunc, 1, 8) := by kernel_rfl
theorem inf43 : (Try.prog.info? 43).map (fun i => (i.zero, i.size, i.bytes)) = some (some .nilFunc, 1, 8) := by kernel_rfl
theorem inf44 : (Try.prog.info? 44).map (fun i => (i.zero, i.size, i.bytes)) = some (some (.slice none 0 0), 1, 24) := by kernel_rfl
theorem inf45 : (Try.prog.info? 45).map (fun i => (i.zero, i.size, i.bytes)) = some (some (.agg #[(.int .i64 0), (.slice none 0 0), (.slice none 0 0)]), 3, 56) := by kernel_rfl
theorem inf46 : (Try.prog.info? 46).map (fun i => (i.zero, i.size, i.bytes)) = some (some (.agg #[(.int .i64 0), (.slice none 0 0), (.slice none 0 0)]), 3, 56) := by kernel_rfl
theorem inf47 : (Try.prog.info? 47).map (fun i => (i.zero, i.size, i.bytes)) = some (some (.agg #[(.int .u8 0), (.int .u64 0), (.int .i64 0)]), 3, 24) := by kernel_rfl
theorem inf48 : (Try.prog.info? 48).map (fun i => (i.zero, i.size, i.bytes)) = some (some (.agg #[(.int .u8 0), (.int .u64 0), (.int .i64 0)]), 3, 24) := by kernel_rfl
theorem inf50 : (Try.prog.info? 50).map (fun i => (i.zero, i.size, i.bytes)) = some (some .nilFunc, 1, 8) := by kernel_rfl
theorem inf52 : (Try.prog.info? 52).map (fun i => (i.zero, i.size, i.bytes)) = some (some .nilFunc, 1, 8) := by kernel_rfl
theorem inf54 : (Try.prog.info? 54).map (fun i => (i.zero, i.size, i.bytes)) = some (some .nilFunc, 1, 8) := by kernel_rfl
theorem inf55 : (Try.prog.info? 55).map (fun i => (i.zero, i.size, i.bytes)) = some (some .nilFunc, 1, 8) := by kernel_rfl
theorem inf56 : (Try.prog.info? 56).map (fun i => (i.zero, i.size, i.bytes)) = some (some .nilFunc, 1, 8) := by kernel_rfl
theorem inf57 : (Try.prog.info? 57).map (fun i => (i.zero, i.size, i.bytes)) = some (some .nilFunc, 1, 8) := by kernel_rfl
theorem inf58 : (Try.prog.info? 58).map (fun i => (i.zero, i.size, i.bytes)) = some (some (.slice none 0 0), 1, 24) := by kernel_rfl
theorem inf59 : (Try.prog.info? 59).map (fun i => (i.zero, i.size, i.bytes)) = some (some (.agg #[(.slice none 0 0), (.slice none 0 0), (.slice none 0 0), (.slice none 0 0), (.slice none 0 0), (.slice none 0 0), (.slice none 0 0), (.slice none 0 0)]), 8, 192) := by kernel_rfl
theorem inf60 : (Try.prog.info? 60).map (fun i => (i.zero, i.size, i.bytes)) = some (some (.agg #[(.slice none 0 0), (.slice none 0 0), (.slice none 0 0), (.slice none 0 0), (.slice none 0 0), (.slice none 0 0), (.slice none 0 0), (.slice none 0 0), (.slice none 0 0), (.slice none 0 0), (.slice none 0 0), (.slice none 0 0), (.slice none 0 0), (.slice none 0 0), (.slice none 0 0), (.slice none 0 0), (.slice none 0 0), (.slice none 0 0), (.slice none 0 0), (.slice none 0 0), (.slice none 0 0), (.slice none 0 0), (.slice none 0 0), (.slice none 0 0), (.slice none 0 0), (.slice none 0 0), (.slice none 0 0), (.slice none 0 0), (.slice none 0 0), (.slice none 0 0), (.slice none 0 0), (.slice none 0 0)]), 32, 768) := by kernel_rfl
theorem inf61 : (Try.prog.info? 61).map (fun i => (i.zero, i.size, i.bytes)) = some (some (.agg #[(.int .i64 0), (.int .i64 0), (.slice none 0 0), (.slice none 0 0), (.slice none 0 0), (.slice none 0 0), (.slice none 0 0), (.slice none 0 0), (.slice none 0 0), (.slice none 0 0), (.slice none 0 0), (.slice none 0 0), (.slice none 0 0), (.slice none 0 0), (.slice none 0 0), (.slice none 0 0), (.slice none 0 0), (.slice none 0 0), (.slice none 0 0), (.slice none 0 0), (.slice none 0 0), (.slice none 0 0), (.slice none 0 0), (.slice none 0 0), (.slice none 0 0), (.slice none 0 0), (.slice none 0 0), (.slice none 0 0), (.slice none 0 0), (.slice none 0 0), (.slice none 0 0), (.slice none 0 0), (.slice none 0 0), (.slice none 0 0)]), 34, 784) := by kernel_rfl
theorem inf62 : (Try.prog.info? 62).map (fun i => (i.zero, i.size, i.bytes)) = some (some (.agg #[(.int .i64 0), (.int .i64 0), (.slice none 0 0), (.slice none 0 0), (.slice none 0 0), (.slice none 0 0), (.slice none 0 0), (.slice none 0 0), (.slice none 0 0), (.slice none 0 0), (.slice none 0 0), (.slice none 0 0), (.slice none 0 0), (.slice none 0 0), (.slice none 0 0), (.slice none 0 0), (.slice none 0 0), (.slice none 0 0), (.slice none 0 0), (.slice none 0 0), (.slice none 0 0), (.slice none 0 0), (.slice none 0 0), (.slice none 0 0), (.slice none 0 0), (.slice none 0 0), (.slice none 0 0), (.slice none 0 0), (.slice none 0 0), (.slice none 0 0), (.slice none 0 0), (.slice none 0 0), (.slice none 0 0), (.slice none 0 0)]), 34, 784) := by kernel_rfl
theorem inf63 : (Try.prog.info? 63).map (fun i => (i.zero, i.size, i.bytes)) = some (some (.agg #[(.int .u64 0), (.int .i64 0), (.int .i64 0)]), 3, 24) := by kernel_rfl
theorem inf64 : (Try.prog.info? 64).map (fun i => (i.zero, i.size, i.bytes)) = some (some (.agg #[(.int .u64 0), (.int .i64 0), (.int .i64 0)]), 3, 24) := by kernel_rfl
theorem inf65 : (Try.prog.info? 65).map (fun i => (i.zero, i.size, i.bytes)) = some (some .nilFunc, 1, 8) := by kernel_rfl
theorem inf66 : (Try.prog.info? 66).map (fun i => (i.zero, i.size, i.bytes)) = some (some .nilFunc, 1, 8) := by kernel_rfl
theorem inf68 : (Try.prog.info? 68).map (fun i => (i.zero, i.size, i.bytes)) = some (some .nilFunc, 1, 8) := by kernel_rfl
theorem inf69 : (Try.prog.info? 69).map (fun i => (i.zero, i.size, i.bytes)) = some (some .nilFunc, 1, 8) := by kernel_rfl
theorem inf70 : (Try.prog.info? 70).map (fun i => (i.zero, i.size, i.bytes)) = some (some .nilFunc, 1, 8) := by kernel_rfl
theorem inf71 : (Try.prog.info? 71).map (fun i => (i.zero, i.size, i.bytes)) = some (some .nilFunc, 1, 8) := by kernel_rfl
theorem inf72 : (Try.prog.info? 72).map (fun i => (i.zero, i.size, i.bytes)) = some (some .nilFunc, 1, 8) := by kernel_rfl
theorem inf74 : (Try.prog.info? 74).map (fun i => (i.zero, i.size, i.bytes)) = some (some .nilFunc, 1, 8) := by kernel_rfl
theorem inf75 : (Try.prog.info? 75).map (fun i => (i.zero, i.size, i.bytes)) = some (some .nilFunc, 1, 8) := by kernel_rfl
theorem inf76 : (Try.prog.info? 76).map (fun i => (i.zero, i.size, i.bytes)) = some (some .nilFunc, 1, 8) := by kernel_rfl
theorem inf77 : (Try.prog.info? 77).map (fun i => (i.zero, i.size, i.bytes)) = some (some .nilFunc, 1, 8) := by kernel_rfl
theorem inf78 : (Try.prog.info? 78).map (fun i => (i.zero, i.size, i.bytes)) = some (some .nilFunc, 1, 8) := by kernel_rfl
theorem inf79 : (Try.prog.info? 79).map (fun i => (i.zero, i.size, i.bytes)) = some (some .nilFunc, 1, 8) := by kernel_rfl
theorem inf80 : (Try.prog.info? 80).map (fun i => (i.zero, i.size, i.bytes)) = some (some (.int .u64 0), 1, 8) := by kernel_rfl
theorem inf81 : (Try.prog.info? 81).map (fun i => (i.zero, i.size, i.bytes)) = some (some .nilFunc, 1, 8) := by kernel_rfl
theorem inf82 : (Try.prog.info? 82).map (fun i => (i.zero, i.size, i.bytes)) = some (some (.int .i64 0), 1, 8) := by kernel_rfl
theorem inf84 : (Try.prog.info? 84).map (fun i => (i.zero, i.size, i.bytes)) = some (some .nilFunc, 1, 8) := by kernel_rfl
theorem inf85 : (Try.prog.info? 85).map (fun i => (i.zero, i.size, i.bytes)) = some (some .nilFunc, 1, 8) := by kernel_rfl
theorem inf86 : (Try.prog.info? 86).map (fun i => (i.zero, i.size, i.bytes)) = some (some .nilFunc, 1, 8) := by kernel_rfl
theorem inf87 : (Try.prog.info? 87).map (fun i => (i.zero, i.size, i.bytes)) = some (some .nilFunc, 1, 8) := by kernel_rfl
theorem inf88 : (Try.prog.info? 88).map (fun i => (i.zero, i.size, i.bytes)) = some (some .nilFunc, 1, 8) := by kernel_rfl
theorem inf89 : (Try.prog.info? 89).map (fun i => (i.zero, i.size, i.bytes)) = some (some (.int .u32 0), 1, 4) := by kernel_rfl
theorem inf90 : (Try.prog.info? 90).map (fun i => (i.zero, i.size, i.bytes)) = some (some (.int .u64 0), 1, 8) := by kernel_rfl
theorem inf91 : (Try.prog.info? 91).map (fun i => (i.zero, i.size, i.bytes)) = some (some .nilFunc, 1, 8) := by kernel_rfl
theorem inf92 : (Try.prog.info? 92).map (fun i => (i.zero, i.size, i.bytes)) = some (some .nilFunc, 1, 8) := by kernel_rfl
theorem inf93 : (Try.prog.info? 93).map (fun i => (i.zero, i.size, i.bytes)) = some (some .nilFunc, 1, 8) := by kernel_rfl
theorem inf94 : (Try.prog.info? 94).map (fun i => (i.zero, i.size, i.bytes)) = some (some (.pointer none), 1, 8) := by kernel_rfl
theorem inf95 : (Try.prog.info? 95).map (fun i => (i.zero, i.size, i.bytes)) = some (some .nilFunc, 1, 8) := by kernel_rfl
theorem inf96 : (Try.prog.info? 96).map (fun i => (i.zero, i.size, i.bytes)) = some (some (.pointer none), 1, 8) := by kernel_rfl
theorem inf97 : (Try.prog.info? 97).map (fun i => (i.zero, i.size, i.bytes)) = some (some .nilFunc, 1, 8) := by kernel_rfl
theorem inf98 : (Try.prog.info? 98).map (fun i => (i.zero, i.size, i.bytes)) = some (some .nilFunc, 1, 8) := by kernel_rfl
theorem inf99 : (Try.prog.info? 99).map (fun i => (i.zero, i.size, i.bytes)) = some (some (.agg #[(.pointer none), (.pointer none), (.pointer none), (.string ByteArray.empty)]), 4, 40) := by kernel_rfl
theorem inf101 : (Try.prog.info? 101).map (fun i => (i.zero, i.size, i.bytes)) = some (some (.agg #[]), 0, 0) := by kernel_rfl
theorem inf102 : (Try.prog.info? 102).map (fun i => (i.zero, i.size, i.bytes)) = some (some (.agg #[]), 0, 0) := by kernel_rfl
theorem inf106 : (Try.prog.info? 106).map (fun i => (i.zero, i.size, i.bytes)) = some (some .nilFunc, 1, 8) := by kernel_rfl
theorem inf107 : (Try.prog.info? 107).map (fun i => (i.zero, i.size, i.bytes)) = some (some (.pointer none), 1, 8) := by kernel_rfl
theorem inf110 : (Try.prog.info? 110).map (fun i => (i.zero, i.size, i.bytes)) = some (some (.agg #[(.int .u64 0), (.int .u64 0), (.int .u32 0), (.int .u8 0), (.int .u8 0), (.int .u8 0), (.int .u8 0), .nilFunc, (.pointer none), (.int .i32 0), (.int .i32 0)]), 11, 48) := by kernel_rfl
theorem inf112 : (Try.prog.info? 112).map (fun i => (i.zero, i.size, i.bytes)) = some (some (.pointer none), 1, 8) := by kernel_rfl
instance : TZeroC Try.prog 1 [.nilFunc] := ⟨let ⟨i, a, b, _, _⟩ := info_of inf1; ⟨i, _, a, b, rfl⟩⟩
instance : TCell Try.prog 1 := ⟨⟨_, Try.underlying1, rfl⟩, let ⟨i, a, _, c, _⟩ := info_of inf1; ⟨i, a, c⟩⟩
instance : TZeroC Try.prog 2 [(.int .i64 0)] := ⟨let ⟨i, a, b, _, _⟩ := info_of inf2; ⟨i, _, a, b, rfl⟩⟩
instance : TCell Try.prog 2 := ⟨⟨_, Try.underlying2, rfl⟩, let ⟨i, a, _, c, _⟩ := info_of inf2; ⟨i, a, c⟩⟩
instance : TInt Try.prog 2 .i64 := ⟨Try.underlying2⟩
instance : TZeroC Try.prog 3 [(.int .i64 0)] := ⟨let ⟨i, a, b, _, _⟩ := info_of inf3; ⟨i, _, a, b, rfl⟩⟩
instance : TCell Try.prog 3 := ⟨⟨_, Try.underlying3, rfl⟩, let ⟨i, a, _, c, _⟩ := info_of inf3; ⟨i, a, c⟩⟩
instance : TInt Try.prog 3 .i64 := ⟨Try.underlying3⟩
instance : TZeroC Try.prog 4 [(.bool false)] := ⟨let ⟨i, a, b, _, _⟩ := info_of inf4; ⟨i, _, a, b, rfl⟩⟩
instance : TCell Try.prog 4 := ⟨⟨_, Try.underlying4, rfl⟩, let ⟨i, a, _, c, _⟩ := info_of inf4; ⟨i, a, c⟩⟩
instance : TBool Try.prog 4 := ⟨Try.underlying4⟩
instance : TZeroC Try.prog 5 [(.int .u8 0)] := ⟨let ⟨i, a, b, _, _⟩ := info_of inf5; ⟨i, _, a, b, rfl⟩⟩
instance : TCell Try.prog 5 := ⟨⟨_, Try.underlying5, rfl⟩, let ⟨i, a, _, c, _⟩ := info_of inf5; ⟨i, a, c⟩⟩
instance : TInt Try.prog 5 .u8 := ⟨Try.underlying5⟩
instance : TZeroC Try.prog 7 [(.int .i64 0), (.int .i64 0), (.bool false), (.int .u8 0)] := ⟨let ⟨i, a, b, _, _⟩ := info_of inf7; ⟨i, _, a, b, rfl⟩⟩
instance : TAgg Try.prog 7 4 := ⟨⟨_, Try.underlying7, rfl⟩, let ⟨i, a, _, c, _⟩ := info_of inf7; ⟨i, a, c⟩⟩
instance : TFld Try.prog 7 0 0 := ⟨let ⟨i, a, _, c, _⟩ := info_of inf2; ⟨_, _, i, Try.underlying7, rfl, rfl, a, by rw [c]; decide⟩⟩
instance : TFld Try.prog 7 1 1 := ⟨let ⟨i, a, _, c, _⟩ := info_of inf3; ⟨_, _, i, Try.underlying7, rfl, rfl, a, by rw [c]; decide⟩⟩
instance : TFld Try.prog 7 2 2 := ⟨let ⟨i, a, _, c, _⟩ := info_of inf4; ⟨_, _, i, Try.underlying7, rfl, rfl, a, by rw [c]; decide⟩⟩
instance : TFldV Try.prog 7 0 0 := ⟨⟨_, _, _, Try.underlying7, rfl, rfl, Try.underlying2, rfl⟩⟩
instance : TFldV Try.prog 7 1 1 := ⟨⟨_, _, _, Try.underlying7, rfl, rfl, Try.underlying3, rfl⟩⟩
instance : TFldV Try.prog 7 2 2 := ⟨⟨_, _, _, Try.underlying7, rfl, rfl, Try.underlying4, rfl⟩⟩
instance : TZeroC Try.prog 9 [(.string ByteArray.empty)] := ⟨let ⟨i, a, b, _, _⟩ := info_of inf9; ⟨i, _, a, b, rfl⟩⟩
instance : TCell Try.prog 9 := ⟨⟨_, Try.underlying9, rfl⟩, let ⟨i, a, _, c, _⟩ := info_of inf9; ⟨i, a, c⟩⟩
instance : TStr Try.prog 9 := ⟨Try.underlying9⟩
instance : TZeroC Try.prog 12 [(.int .u64 0)] := ⟨let ⟨i, a, b, _, _⟩ := info_of inf12; ⟨i, _, a, b, rfl⟩⟩
instance : TCell Try.prog 12 := ⟨⟨_, Try.underlying12, rfl⟩, let ⟨i, a, _, c, _⟩ := info_of inf12; ⟨i, a, c⟩⟩
instance : TInt Try.prog 12 .u64 := ⟨Try.underlying12⟩
instance : TZeroC Try.prog 13 [(.string ByteArray.empty), (.int .u64 0)] := ⟨let ⟨i, a, b, _, _⟩ := info_of inf13; ⟨i, _, a, b, rfl⟩⟩
instance : TAgg Try.prog 13 2 := ⟨⟨_, Try.underlying13, rfl⟩, let ⟨i, a, _, c, _⟩ := info_of inf13; ⟨i, a, c⟩⟩
instance : TFld Try.prog 13 0 0 := ⟨let ⟨i, a, _, c, _⟩ := info_of inf9; ⟨_, _, i, Try.underlying13, rfl, rfl, a, by rw [c]; decide⟩⟩
instance : TFld Try.prog 13 1 1 := ⟨let ⟨i, a, _, c, _⟩ := info_of inf12; ⟨_, _, i, Try.underlying13, rfl, rfl, a, by rw [c]; decide⟩⟩
instance : TFldV Try.prog 13 0 0 := ⟨⟨_, _, _, Try.underlying13, rfl, rfl, Try.underlying9, rfl⟩⟩
instance : TFldV Try.prog 13 1 1 := ⟨⟨_, _, _, Try.underlying13, rfl, rfl, Try.underlying12, rfl⟩⟩
instance : TStruct Try.prog 13 [(0, 1), (1, 1)] [(.string ByteArray.empty), (.int .u64 0)] := ⟨let ⟨i, a, b, _, _⟩ := info_of inf13; ⟨i, _, _, a, b, rfl, Try.underlying13, by kernel_rfl⟩⟩
instance : TZeroC Try.prog 18 [(.pointer none)] := ⟨let ⟨i, a, b, _, _⟩ := info_of inf18; ⟨i, _, a, b, rfl⟩⟩
instance : TAgg Try.prog 18 1 := ⟨⟨_, Try.underlying18, rfl⟩, let ⟨i, a, _, c, _⟩ := info_of inf18; ⟨i, a, c⟩⟩
instance : TZeroC Try.prog 20 [.nilIface] := ⟨let ⟨i, a, b, _, _⟩ := info_of inf20; ⟨i, _, a, b, rfl⟩⟩
instance : TCell Try.prog 20 := ⟨⟨_, Try.underlying20, rfl⟩, let ⟨i, a, _, c, _⟩ := info_of inf20; ⟨i, a, c⟩⟩
instance : TZeroC Try.prog 21 [(.int .i32 0)] := ⟨let ⟨i, a, b, _, _⟩ := info_of inf21; ⟨i, _, a, b, rfl⟩⟩
instance : TCell Try.prog 21 := ⟨⟨_, Try.underlying21, rfl⟩, let ⟨i, a, _, c, _⟩ := info_of inf21; ⟨i, a, c⟩⟩
instance : TInt Try.prog 21 .i32 := ⟨Try.underlying21⟩
instance : TZeroC Try.prog 22 [(.slice none 0 0)] := ⟨let ⟨i, a, b, _, _⟩ := info_of inf22; ⟨i, _, a, b, rfl⟩⟩
instance : TCell Try.prog 22 := ⟨⟨_, Try.underlying22, rfl⟩, let ⟨i, a, _, c, _⟩ := info_of inf22; ⟨i, a, c⟩⟩
instance : TSlice Try.prog 22 3 1 := ⟨let ⟨i, a, _, c, _⟩ := info_of inf3; ⟨i, Try.underlying22, a, c⟩⟩
instance : TElem Try.prog 22 3 1 8 [(.int .i64 0)] := ⟨let ⟨i, a, b, c, d⟩ := info_of inf3; ⟨i, _, Try.underlying22, a, c, d, b, rfl, rfl⟩⟩
instance : TZeroC Try.prog 23 [.nilFunc] := ⟨let ⟨i, a, b, _, _⟩ := info_of inf23; ⟨i, _, a, b, rfl⟩⟩
instance : TCell Try.prog 23 := ⟨⟨_, Try.underlying23, rfl⟩, let ⟨i, a, _, c, _⟩ := info_of inf23; ⟨i, a, c⟩⟩
instance : TZeroC Try.prog 24 [(.pointer none)] := ⟨let ⟨i, a, b, _, _⟩ := info_of inf24; ⟨i, _, a, b, rfl⟩⟩
instance : TCell Try.prog 24 := ⟨⟨_, Try.underlying24, rfl⟩, let ⟨i, a, _, c, _⟩ := info_of inf24; ⟨i, a, c⟩⟩
instance : TPtr Try.prog 24 := ⟨_, Try.underlying24⟩
instance : TZeroC Try.prog 25 [.nilFunc] := ⟨let ⟨i, a, b, _, _⟩ := info_of inf25; ⟨i, _, a, b, rfl⟩⟩
instance : TCell Try.prog 25 := ⟨⟨_, Try.underlying25, rfl⟩, let ⟨i, a, _, c, _⟩ := info_of inf25; ⟨i, a, c⟩⟩
instance : TZeroC Try.prog 26 [.nilFunc] := ⟨let ⟨i, a, b, _, _⟩ := info_of inf26; ⟨i, _, a, b, rfl⟩⟩
instance : TCell Try.prog 26 := ⟨⟨_, Try.underlying26, rfl⟩, let ⟨i, a, _, c, _⟩ := info_of inf26; ⟨i, a, c⟩⟩
instance : TZeroC Try.prog 27 [(.slice none 0 0)] := ⟨let ⟨i, a, b, _, _⟩ := info_of inf27; ⟨i, _, a, b, rfl⟩⟩
instance : TCell Try.prog 27 := ⟨⟨_, Try.underlying27, rfl⟩, let ⟨i, a, _, c, _⟩ := info_of inf27; ⟨i, a, c⟩⟩
instance : TSlice Try.prog 27 31 1 := ⟨let ⟨i, a, _, c, _⟩ := info_of inf31; ⟨i, Try.underlying27, a, c⟩⟩
instance : TElem Try.prog 27 31 1 8 [(.int .u64 0)] := ⟨let ⟨i, a, b, c, d⟩ := info_of inf31; ⟨i, _, Try.underlying27, a, c, d, b, rfl, rfl⟩⟩
instance : TZeroC Try.prog 28 [.nilFunc] := ⟨let ⟨i, a, b, _, _⟩ := info_of inf28; ⟨i, _, a, b, rfl⟩⟩
instance : TCell Try.prog 28 := ⟨⟨_, Try.underlying28, rfl⟩, let ⟨i, a, _, c, _⟩ := info_of inf28; ⟨i, a, c⟩⟩
instance : TZeroC Try.prog 29 [(.int .i64 0)] := ⟨let ⟨i, a, b, _, _⟩ := info_of inf29; ⟨i, _, a, b, rfl⟩⟩
instance : TCell Try.prog 29 := ⟨⟨_, Try.underlying29, rfl⟩, let ⟨i, a, _, c, _⟩ := info_of inf29; ⟨i, a, c⟩⟩
instance : TInt Try.prog 29 .i64 := ⟨Try.underlying29⟩
instance : TZeroC Try.prog 30 [.nilFunc] := ⟨let ⟨i, a, b, _, _⟩ := info_of inf30; ⟨i, _, a, b, rfl⟩⟩
instance : TCell Try.prog 30 := ⟨⟨_, Try.underlying30, rfl⟩, let ⟨i, a, _, c, _⟩ := info_of inf30; ⟨i, a, c⟩⟩
instance : TZeroC Try.prog 31 [(.int .u64 0)] := ⟨let ⟨i, a, b, _, _⟩ := info_of inf31; ⟨i, _, a, b, rfl⟩⟩
instance : TCell Try.prog 31 := ⟨⟨_, Try.underlying31, rfl⟩, let ⟨i, a, _, c, _⟩ := info_of inf31; ⟨i, a, c⟩⟩
instance : TInt Try.prog 31 .u64 := ⟨Try.underlying31⟩
instance : TZeroC Try.prog 32 [.nilFunc] := ⟨let ⟨i, a, b, _, _⟩ := info_of inf32; ⟨i, _, a, b, rfl⟩⟩
instance : TCell Try.prog 32 := ⟨⟨_, Try.underlying32, rfl⟩, let ⟨i, a, _, c, _⟩ := info_of inf32; ⟨i, a, c⟩⟩
instance : TZeroC Try.prog 33 [.nilFunc] := ⟨let ⟨i, a, b, _, _⟩ := info_of inf33; ⟨i, _, a, b, rfl⟩⟩
instance : TCell Try.prog 33 := ⟨⟨_, Try.underlying33, rfl⟩, let ⟨i, a, _, c, _⟩ := info_of inf33; ⟨i, a, c⟩⟩
instance : TZeroC Try.prog 35 [.nilFunc] := ⟨let ⟨i, a, b, _, _⟩ := info_of inf35; ⟨i, _, a, b, rfl⟩⟩
instance : TCell Try.prog 35 := ⟨⟨_, Try.underlying35, rfl⟩, let ⟨i, a, _, c, _⟩ := info_of inf35; ⟨i, a, c⟩⟩
instance : TZeroC Try.prog 36 [.nilFunc] := ⟨let ⟨i, a, b, _, _⟩ := info_of inf36; ⟨i, _, a, b, rfl⟩⟩
instance : TCell Try.prog 36 := ⟨⟨_, Try.underlying36, rfl⟩, let ⟨i, a, _, c, _⟩ := info_of inf36; ⟨i, a, c⟩⟩
instance : TZeroC Try.prog 38 [.nilFunc] := ⟨let ⟨i, a, b, _, _⟩ := info_of inf38; ⟨i, _, a, b, rfl⟩⟩
instance : TCell Try.prog 38 := ⟨⟨_, Try.underlying38, rfl⟩, let ⟨i, a, _, c, _⟩ := info_of inf38; ⟨i, a, c⟩⟩
instance : TZeroC Try.prog 39 [.nilFunc] := ⟨let ⟨i, a, b, _, _⟩ := info_of inf39; ⟨i, _, a, b, rfl⟩⟩
instance : TCell Try.prog 39 := ⟨⟨_, Try.underlying39, rfl⟩, let ⟨i, a, _, c, _⟩ := info_of inf39; ⟨i, a, c⟩⟩
instance : TZeroC Try.prog 40 [(.slice none 0 0)] := ⟨let ⟨i, a, b, _, _⟩ := info_of inf40; ⟨i, _, a, b, rfl⟩⟩
instance : TCell Try.prog 40 := ⟨⟨_, Try.underlying40, rfl⟩, let ⟨i, a, _, c, _⟩ := info_of inf40; ⟨i, a, c⟩⟩
instance : TSlice Try.prog 40 4 1 := ⟨let ⟨i, a, _, c, _⟩ := info_of inf4; ⟨i, Try.underlying40, a, c⟩⟩
instance : TElem Try.prog 40 4 1 1 [(.bool false)] := ⟨let ⟨i, a, b, c, d⟩ := info_of inf4; ⟨i, _, Try.underlying40, a, c, d, b, rfl, rfl⟩⟩
instance : TZeroC Try.prog 41 [.nilFunc] := ⟨let ⟨i, a, b, _, _⟩ := info_of inf41; ⟨i, _, a, b, rfl⟩⟩
instance : TCell Try.prog 41 := ⟨⟨_, Try.underlying41, rfl⟩, let ⟨i, a, _, c, _⟩ := info_of inf41; ⟨i, a, c⟩⟩
instance : TZeroC Try.prog 42 [.nilFunc] := ⟨let ⟨i, a, b, _, _⟩ := info_of inf42; ⟨i, _, a, b, rfl⟩⟩
instance : TCell Try.prog 42 := ⟨⟨_, Try.underlying42, rfl⟩, let ⟨i, a, _, c, _⟩ := info_of inf42; ⟨i, a, c⟩⟩
instance : TZeroC Try.prog 43 [.nilFunc] := ⟨let ⟨i, a, b, _, _⟩ := info_of inf43; ⟨i, _, a, b, rfl⟩⟩
instance : TCell Try.prog 43 := ⟨⟨_, Try.underlying43, rfl⟩, let ⟨i, a, _, c, _⟩ := info_of inf43; ⟨i, a, c⟩⟩
instance : TZeroC Try.prog 44 [(.slice none 0 0)] := ⟨let ⟨i, a, b, _, _⟩ := info_of inf44; ⟨i, _, a, b, rfl⟩⟩
instance : TCell Try.prog 44 := ⟨⟨_, Try.underlying44, rfl⟩, let ⟨i, a, _, c, _⟩ := info_of inf44; ⟨i, a, c⟩⟩
instance : TSlice Try.prog 44 48 3 := ⟨let ⟨i, a, _, c, _⟩ := info_of inf48; ⟨i, Try.underlying44, a, c⟩⟩
instance : TElem Try.prog 44 48 3 24 [(.int .u8 0), (.int .u64 0), (.int .i64 0)] := ⟨let ⟨i, a, b, c, d⟩ := info_of inf48; ⟨i, _, Try.underlying44, a, c, d, b, rfl, rfl⟩⟩
instance : TZeroC Try.prog 45 [(.int .i64 0), (.slice none 0 0), (.slice none 0 0)] := ⟨let ⟨i, a, b, _, _⟩ := info_of inf45; ⟨i, _, a, b, rfl⟩⟩
instance : TAgg Try.prog 45 3 := ⟨⟨_, Try.underlying45, rfl⟩, let ⟨i, a, _, c, _⟩ := info_of inf45; ⟨i, a, c⟩⟩
instance : TFld Try.prog 45 0 0 := ⟨let ⟨i, a, _, c, _⟩ := info_of inf3; ⟨_, _, i, Try.underlying45, rfl, rfl, a, by rw [c]; decide⟩⟩
instance : TFld Try.prog 45 1 1 := ⟨let ⟨i, a, _, c, _⟩ := info_of inf27; ⟨_, _, i, Try.underlying45, rfl, rfl, a, by rw [c]; decide⟩⟩
instance : TFld Try.prog 45 2 2 := ⟨let ⟨i, a, _, c, _⟩ := info_of inf22; ⟨_, _, i, Try.underlying45, rfl, rfl, a, by rw [c]; decide⟩⟩
instance : TFldV Try.prog 45 0 0 := ⟨⟨_, _, _, Try.underlying45, rfl, rfl, Try.underlying3, rfl⟩⟩
instance : TFldV Try.prog 45 1 1 := ⟨⟨_, _, _, Try.underlying45, rfl, rfl, Try.underlying27, rfl⟩⟩
instance : TFldV Try.prog 45 2 2 := ⟨⟨_, _, _, Try.underlying45, rfl, rfl, Try.underlying22, rfl⟩⟩
instance : TStruct Try.prog 45 [(0, 1), (1, 1), (2, 1)] [(.int .i64 0), (.slice none 0 0), (.slice none 0 0)] := ⟨let ⟨i, a, b, _, _⟩ := info_of inf45; ⟨i, _, _, a, b, rfl, Try.underlying45, by kernel_rfl⟩⟩
instance : TZeroC Try.prog 46 [(.int .i64 0), (.slice none 0 0), (.slice none 0 0)] := ⟨let ⟨i, a, b, _, _⟩ := info_of inf46; ⟨i, _, a, b, rfl⟩⟩
instance : TAgg Try.prog 46 3 := ⟨⟨_, Try.underlying46, rfl⟩, let ⟨i, a, _, c, _⟩ := info_of inf46; ⟨i, a, c⟩⟩
instance : TFld Try.prog 46 0 0 := ⟨let ⟨i, a, _, c, _⟩ := info_of inf3; ⟨_, _, i, Try.underlying46, rfl, rfl, a, by rw [c]; decide⟩⟩
instance : TFld Try.prog 46 1 1 := ⟨let ⟨i, a, _, c, _⟩ := info_of inf27; ⟨_, _, i, Try.underlying46, rfl, rfl, a, by rw [c]; decide⟩⟩
instance : TFld Try.prog 46 2 2 := ⟨let ⟨i, a, _, c, _⟩ := info_of inf22; ⟨_, _, i, Try.underlying46, rfl, rfl, a, by rw [c]; decide⟩⟩
instance : TFldV Try.prog 46 0 0 := ⟨⟨_, _, _, Try.underlying46, rfl, rfl, Try.underlying3, rfl⟩⟩
instance : TFldV Try.prog 46 1 1 := ⟨⟨_, _, _, Try.underlying46, rfl, rfl, Try.underlying27, rfl⟩⟩
instance : TFldV Try.prog 46 2 2 := ⟨⟨_, _, _, Try.underlying46, rfl, rfl, Try.underlying22, rfl⟩⟩
instance : TStruct Try.prog 46 [(0, 1), (1, 1), (2, 1)] [(.int .i64 0), (.slice none 0 0), (.slice none 0 0)] := ⟨let ⟨i, a, b, _, _⟩ := info_of inf46; ⟨i, _, _, a, b, rfl, Try.underlying46, by kernel_rfl⟩⟩
instance : TZeroC Try.prog 47 [(.int .u8 0), (.int .u64 0), (.int .i64 0)] := ⟨let ⟨i, a, b, _, _⟩ := info_of inf47; ⟨i, _, a, b, rfl⟩⟩
instance : TAgg Try.prog 47 3 := ⟨⟨_, Try.underlying47, rfl⟩, let ⟨i, a, _, c, _⟩ := info_of inf47; ⟨i, a, c⟩⟩
instance : TFld Try.prog 47 0 0 := ⟨let ⟨i, a, _, c, _⟩ := info_of inf5; ⟨_, _, i, Try.underlying47, rfl, rfl, a, by rw [c]; decide⟩⟩
instance : TFld Try.prog 47 1 1 := ⟨let ⟨i, a, _, c, _⟩ := info_of inf31; ⟨_, _, i, Try.underlying47, rfl, rfl, a, by rw [c]; decide⟩⟩
instance : TFld Try.prog 47 2 2 := ⟨let ⟨i, a, _, c, _⟩ := info_of inf3; ⟨_, _, i, Try.underlying47, rfl, rfl, a, by rw [c]; decide⟩⟩
instance : TFldV Try.prog 47 0 0 := ⟨⟨_, _, _, Try.underlying47, rfl, rfl, Try.underlying5, rfl⟩⟩
instance : TFldV Try.prog 47 1 1 := ⟨⟨_, _, _, Try.underlying47, rfl, rfl, Try.underlying31, rfl⟩⟩
instance : TFldV Try.prog 47 2 2 := ⟨⟨_, _, _, Try.underlying47, rfl, rfl, Try.underlying3, rfl⟩⟩
instance : TStruct Try.prog 47 [(0, 1), (1, 1), (2, 1)] [(.int .u8 0), (.int .u64 0), (.int .i64 0)] := ⟨let ⟨i, a, b, _, _⟩ := info_of inf47; ⟨i, _, _, a, b, rfl, Try.underlying47, by kernel_rfl⟩⟩
instance : TZeroC Try.prog 48 [(.int .u8 0), (.int .u64 0), (.int .i64 0)] := ⟨let ⟨i, a, b, _, _⟩ := info_of inf48; ⟨i, _, a, b, rfl⟩⟩
instance : TAgg Try.prog 48 3 := ⟨⟨_, Try.underlying48, rfl⟩, let ⟨i, a, _, c, _⟩ := info_of inf48; ⟨i, a, c⟩⟩
instance : TFld Try.prog 48 0 0 := ⟨let ⟨i, a, _, c, _⟩ := info_of inf5; ⟨_, _, i, Try.underlying48, rfl, rfl, a, by rw [c]; decide⟩⟩
instance : TFld Try.prog 48 1 1 := ⟨let ⟨i, a, _, c, _⟩ := info_of inf31; ⟨_, _, i, Try.underlying48, rfl, rfl, a, by rw [c]; decide⟩⟩
instance : TFld Try.prog 48 2 2 := ⟨let ⟨i, a, _, c, _⟩ := info_of inf3; ⟨_, _, i, Try.underlying48, rfl, rfl, a, by rw [c]; decide⟩⟩
instance : TFldV Try.prog 48 0 0 := ⟨⟨_, _, _, Try.underlying48, rfl, rfl, Try.underlying5, rfl⟩⟩
instance : TFldV Try.prog 48 1 1 := ⟨⟨_, _, _, Try.underlying48, rfl, rfl, Try.underlying31, rfl⟩⟩
instance : TFldV Try.prog 48 2 2 := ⟨⟨_, _, _, Try.underlying48, rfl, rfl, Try.underlying3, rfl⟩⟩
instance : TFlat Try.prog 48 [.int .u8, .int .u64, .int .i64] := ⟨⟨_, Try.underlying48, by kernel_rfl⟩, by kernel_rfl, by kernel_rfl⟩
instance : TStruct Try.prog 48 [(0, 1), (1, 1), (2, 1)] [(.int .u8 0), (.int .u64 0), (.int .i64 0)] := ⟨let ⟨i, a, b, _, _⟩ := info_of inf48; ⟨i, _, _, a, b, rfl, Try.underlying48, by kernel_rfl⟩⟩
instance : TZeroC Try.prog 50 [.nilFunc] := ⟨let ⟨i, a, b, _, _⟩ := info_of inf50; ⟨i, _, a, b, rfl⟩⟩
instance : TCell Try.prog 50 := ⟨⟨_, Try.underlying50, rfl⟩, let ⟨i, a, _, c, _⟩ := info_of inf50; ⟨i, a, c⟩⟩
instance : TZeroC Try.prog 52 [.nilFunc] := ⟨let ⟨i, a, b, _, _⟩ := info_of inf52; ⟨i, _, a, b, rfl⟩⟩
instance : TCell Try.prog 52 := ⟨⟨_, Try.underlying52, rfl⟩, let ⟨i, a, _, c, _⟩ := info_of inf52; ⟨i, a, c⟩⟩
instance : TZeroC Try.prog 54 [.nilFunc] := ⟨let ⟨i, a, b, _, _⟩ := info_of inf54; ⟨i, _, a, b, rfl⟩⟩
instance : TCell Try.prog 54 := ⟨⟨_, Try.underlying54, rfl⟩, let ⟨i, a, _, c, _⟩ := info_of inf54; ⟨i, a, c⟩⟩
instance : TZeroC Try.prog 55 [.nilFunc] := ⟨let ⟨i, a, b, _, _⟩ := info_of inf55; ⟨i, _, a, b, rfl⟩⟩
instance : TCell Try.prog 55 := ⟨⟨_, Try.underlying55, rfl⟩, let ⟨i, a, _, c, _⟩ := info_of inf55; ⟨i, a, c⟩⟩
instance : TZeroC Try.prog 56 [.nilFunc] := ⟨let ⟨i, a, b, _, _⟩ := info_of inf56; ⟨i, _, a, b, rfl⟩⟩
instance : TCell Try.prog 56 := ⟨⟨_, Try.underlying56, rfl⟩, let ⟨i, a, _, c, _⟩ := info_of inf56; ⟨i, a, c⟩⟩
instance : TZeroC Try.prog 57 [.nilFunc] := ⟨let ⟨i, a, b, _, _⟩ := info_of inf57; ⟨i, _, a, b, rfl⟩⟩
instance : TCell Try.prog 57 := ⟨⟨_, Try.underlying57, rfl⟩, let ⟨i, a, _, c, _⟩ := info_of inf57; ⟨i, a, c⟩⟩
instance : TZeroC Try.prog 58 [(.slice none 0 0)] := ⟨let ⟨i, a, b, _, _⟩ := info_of inf58; ⟨i, _, a, b, rfl⟩⟩
instance : TCell Try.prog 58 := ⟨⟨_, Try.underlying58, rfl⟩, let ⟨i, a, _, c, _⟩ := info_of inf58; ⟨i, a, c⟩⟩
instance : TSlice Try.prog 58 64 3 := ⟨let ⟨i, a, _, c, _⟩ := info_of inf64; ⟨i, Try.underlying58, a, c⟩⟩
instance : TElem Try.prog 58 64 3 24 [(.int .u64 0), (.int .i64 0), (.int .i64 0)] := ⟨let ⟨i, a, b, c, d⟩ := info_of inf64; ⟨i, _, Try.underlying58, a, c, d, b, rfl, rfl⟩⟩
instance : TZeroC Try.prog 59 [(.slice none 0 0), (.slice none 0 0), (.slice none 0 0), (.slice none 0 0), (.slice none 0 0), (.slice none 0 0), (.slice none 0 0), (.slice none 0 0)] := ⟨let ⟨i, a, b, _, _⟩ := info_of inf59; ⟨i, _, a, b, rfl⟩⟩
instance : TAgg Try.prog 59 8 := ⟨⟨_, Try.underlying59, rfl⟩, let ⟨i, a, _, c, _⟩ := info_of inf59; ⟨i, a, c⟩⟩
instance : TArr Try.prog 59 8 1 := ⟨let ⟨i, a, _, c, _⟩ := info_of inf58; ⟨_, i, Try.underlying59, a, c⟩⟩
instance : TZeroC Try.prog 60 [(.slice none 0 0), (.slice none 0 0), (.slice none 0 0), (.slice none 0 0), (.slice none 0 0), (.slice none 0 0), (.slice none 0 0), (.slice none 0 0), (.slice none 0 0), (.slice none 0 0), (.slice none 0 0), (.slice none 0 0), (.slice none 0 0), (.slice none 0 0), (.slice none 0 0), (.slice none 0 0), (.slice none 0 0), (.slice none 0 0), (.slice none 0 0), (.slice none 0 0), (.slice none 0 0), (.slice none 0 0), (.slice none 0 0), (.slice none 0 0), (.slice none 0 0), (.slice none 0 0), (.slice none 0 0), (.slice none 0 0), (.slice none 0 0), (.slice none 0 0), (.slice none 0 0), (.slice none 0 0)] := ⟨let ⟨i, a, b, _, _⟩ := info_of inf60; ⟨i, _, a, b, rfl⟩⟩
instance : TAgg Try.prog 60 32 := ⟨⟨_, Try.underlying60, rfl⟩, let ⟨i, a, _, c, _⟩ := info_of inf60; ⟨i, a, c⟩⟩
instance : TArr Try.prog 60 4 8 := ⟨let ⟨i, a, _, c, _⟩ := info_of inf59; ⟨_, i, Try.underlying60, a, c⟩⟩
instance : TZeroC Try.prog 61 [(.int .i64 0), (.int .i64 0), (.slice none 0 0), (.slice none 0 0), (.slice none 0 0), (.slice none 0 0), (.slice none 0 0), (.slice none 0 0), (.slice none 0 0), (.slice none 0 0), (.slice none 0 0), (.slice none 0 0), (.slice none 0 0), (.slice none 0 0), (.slice none 0 0), (.slice none 0 0), (.slice none 0 0), (.slice none 0 0), (.slice none 0 0), (.slice none 0 0), (.slice none 0 0), (.slice none 0 0), (.slice none 0 0), (.slice none 0 0), (.slice none 0 0), (.slice none 0 0), (.slice none 0 0), (.slice none 0 0), (.slice none 0 0), (.slice none 0 0), (.slice none 0 0), (.slice none 0 0), (.slice none 0 0), (.slice none 0 0)] := ⟨let ⟨i, a, b, _, _⟩ := info_of inf61; ⟨i, _, a, b, rfl⟩⟩
instance : TAgg Try.prog 61 34 := ⟨⟨_, Try.underlying61, rfl⟩, let ⟨i, a, _, c, _⟩ := info_of inf61; ⟨i, a, c⟩⟩
instance : TFld Try.prog 61 0 0 := ⟨let ⟨i, a, _, c, _⟩ := info_of inf3; ⟨_, _, i, Try.underlying61, rfl, rfl, a, by rw [c]; decide⟩⟩
instance : TFld Try.prog 61 1 1 := ⟨let ⟨i, a, _, c, _⟩ := info_of inf3; ⟨_, _, i, Try.underlying61, rfl, rfl, a, by rw [c]; decide⟩⟩
instance : TFld Try.prog 61 2 2 := ⟨let ⟨i, a, _, c, _⟩ := info_of inf60; ⟨_, _, i, Try.underlying61, rfl, rfl, a, by rw [c]; decide⟩⟩
instance : TFldV Try.prog 61 0 0 := ⟨⟨_, _, _, Try.underlying61, rfl, rfl, Try.underlying3, rfl⟩⟩
instance : TFldV Try.prog 61 1 1 := ⟨⟨_, _, _, Try.underlying61, rfl, rfl, Try.underlying3, rfl⟩⟩
instance : TFldA Try.prog 61 2 2 32 := ⟨let ⟨i, a, _, c, _⟩ := info_of inf60; ⟨_, _, _, i, Try.underlying61, rfl, rfl, Try.underlying60, rfl, a, c⟩⟩
instance : TStruct Try.prog 61 [(0, 1), (1, 1), (2, 32)] [(.int .i64 0), (.int .i64 0), (.slice none 0 0), (.slice none 0 0), (.slice none 0 0), (.slice none 0 0), (.slice none 0 0), (.slice none 0 0), (.slice none 0 0), (.slice none 0 0), (.slice none 0 0), (.slice none 0 0), (.slice none 0 0), (.slice none 0 0), (.slice none 0 0), (.slice none 0 0), (.slice none 0 0), (.slice none 0 0), (.slice none 0 0), (.slice none 0 0), (.slice none 0 0), (.slice none 0 0), (.slice none 0 0), (.slice none 0 0), (.slice none 0 0), (.slice none 0 0), (.slice none 0 0), (.slice none 0 0), (.slice none 0 0), (.slice none 0 0), (.slice none 0 0), (.slice none 0 0), (.slice none 0 0), (.slice none 0 0)] := ⟨let ⟨i, a, b, _, _⟩ := info_of inf61; ⟨i, _, _, a, b, rfl, Try.underlying61, by kernel_rfl⟩⟩
instance : TZeroC Try.prog 62 [(.int .i64 0), (.int .i64 0), (.slice none 0 0), (.slice none 0 0), (.slice none 0 0), (.slice none 0 0), (.slice none 0 0), (.slice none 0 0), (.slice none 0 0), (.slice none 0 0), (.slice none 0 0), (.slice none 0 0), (.slice none 0 0), (.slice none 0 0), (.slice none 0 0), (.slice none 0 0), (.slice none 0 0), (.slice none 0 0), (.slice none 0 0), (.slice none 0 0), (.slice none 0 0), (.slice none 0 0), (.slice none 0 0), (.slice none 0 0), (.slice none 0 0), (.slice none 0 0), (.slice none 0 0), (.slice none 0 0), (.slice none 0 0), (.slice none 0 0), (.slice none 0 0), (.slice none 0 0), (.slice none 0 0), (.slice none 0 0)] := ⟨let ⟨i, a, b, _, _⟩ := info_of inf62; ⟨i, _, a, b, rfl⟩⟩
instance : TAgg Try.prog 62 34 := ⟨⟨_, Try.underlying62, rfl⟩, let ⟨i, a, _, c, _⟩ := info_of inf62; ⟨i, a, c⟩⟩
instance : TFld Try.prog 62 0 0 := ⟨let ⟨i, a, _, c, _⟩ := info_of inf3; ⟨_, _, i, Try.underlying62, rfl, rfl, a, by rw [c]; decide⟩⟩
instance : TFld Try.prog 62 1 1 := ⟨let ⟨i, a, _, c, _⟩ := info_of inf3; ⟨_, _, i, Try.underlying62, rfl, rfl, a, by rw [c]; decide⟩⟩
instance : TFld Try.prog 62 2 2 := ⟨let ⟨i, a, _, c, _⟩ := info_of inf60; ⟨_, _, i, Try.underlying62, rfl, rfl, a, by rw [c]; decide⟩⟩
instance : TFldV Try.prog 62 0 0 := ⟨⟨_, _, _, Try.underlying62, rfl, rfl, Try.underlying3, rfl⟩⟩
instance : TFldV Try.prog 62 1 1 := ⟨⟨_, _, _, Try.underlying62, rfl, rfl, Try.underlying3, rfl⟩⟩
instance : TFldA Try.prog 62 2 2 32 := ⟨let ⟨i, a, _, c, _⟩ := info_of inf60; ⟨_, _, _, i, Try.underlying62, rfl, rfl, Try.underlying60, rfl, a, c⟩⟩
instance : TStruct Try.prog 62 [(0, 1), (1, 1), (2, 32)] [(.int .i64 0), (.int .i64 0), (.slice none 0 0), (.slice none 0 0), (.slice none 0 0), (.slice none 0 0), (.slice none 0 0), (.slice none 0 0), (.slice none 0 0), (.slice none 0 0), (.slice none 0 0), (.slice none 0 0), (.slice none 0 0), (.slice none 0 0), (.slice none 0 0), (.slice none 0 0), (.slice none 0 0), (.slice none 0 0), (.slice none 0 0), (.slice none 0 0), (.slice none 0 0), (.slice none 0 0), (.slice none 0 0), (.slice none 0 0), (.slice none 0 0), (.slice none 0 0), (.slice none 0 0), (.slice none 0 0), (.slice none 0 0), (.slice none 0 0), (.slice none 0 0), (.slice none 0 0), (.slice none 0 0), (.slice none 0 0)] := ⟨let ⟨i, a, b, _, _⟩ := info_of inf62; ⟨i, _, _, a, b, rfl, Try.underlying62, by kernel_rfl⟩⟩
instance : TZeroC Try.prog 63 [(.int .u64 0), (.int .i64 0), (.int .i64 0)] := ⟨let ⟨i, a, b, _, _⟩ := info_of inf63; ⟨i, _, a, b, rfl⟩⟩
instance : TAgg Try.prog 63 3 := ⟨⟨_, Try.underlying63, rfl⟩, let ⟨i, a, _, c, _⟩ := info_of inf63; ⟨i, a, c⟩⟩
instance : TFld Try.prog 63 0 0 := ⟨let ⟨i, a, _, c, _⟩ := info_of inf31; ⟨_, _, i, Try.underlying63, rfl, rfl, a, by rw [c]; decide⟩⟩
instance : TFld Try.prog 63 1 1 := ⟨let ⟨i, a, _, c, _⟩ := info_of inf3; ⟨_, _, i, Try.underlying63, rfl, rfl, a, by rw [c]; decide⟩⟩
instance : TFld Try.prog 63 2 2 := ⟨let ⟨i, a, _, c, _⟩ := info_of inf3; ⟨_, _, i, Try.underlying63, rfl, rfl, a, by rw [c]; decide⟩⟩
instance : TFldV Try.prog 63 0 0 := ⟨⟨_, _, _, Try.underlying63, rfl, rfl, Try.underlying31, rfl⟩⟩
instance : TFldV Try.prog 63 1 1 := ⟨⟨_, _, _, Try.underlying63, rfl, rfl, Try.underlying3, rfl⟩⟩
instance : TFldV Try.prog 63 2 2 := ⟨⟨_, _, _, Try.underlying63, rfl, rfl, Try.underlying3, rfl⟩⟩
instance : TStruct Try.prog 63 [(0, 1), (1, 1), (2, 1)] [(.int .u64 0), (.int .i64 0), (.int .i64 0)] := ⟨let ⟨i, a, b, _, _⟩ := info_of inf63; ⟨i, _, _, a, b, rfl, Try.underlying63, by kernel_rfl⟩⟩
instance : TZeroC Try.prog 64 [(.int .u64 0), (.int .i64 0), (.int .i64 0)] := ⟨let ⟨i, a, b, _, _⟩ := info_of inf64; ⟨i, _, a, b, rfl⟩⟩
instance : TAgg Try.prog 64 3 := ⟨⟨_, Try.underlying64, rfl⟩, let ⟨i, a, _, c, _⟩ := info_of inf64; ⟨i, a, c⟩⟩
instance : TFld Try.prog 64 0 0 := ⟨let ⟨i, a, _, c, _⟩ := info_of inf31; ⟨_, _, i, Try.underlying64, rfl, rfl, a, by rw [c]; decide⟩⟩
instance : TFld Try.prog 64 1 1 := ⟨let ⟨i, a, _, c, _⟩ := info_of inf3; ⟨_, _, i, Try.underlying64, rfl, rfl, a, by rw [c]; decide⟩⟩
instance : TFld Try.prog 64 2 2 := ⟨let ⟨i, a, _, c, _⟩ := info_of inf3; ⟨_, _, i, Try.underlying64, rfl, rfl, a, by rw [c]; decide⟩⟩
instance : TFldV Try.prog 64 0 0 := ⟨⟨_, _, _, Try.underlying64, rfl, rfl, Try.underlying31, rfl⟩⟩
instance : TFldV Try.prog 64 1 1 := ⟨⟨_, _, _, Try.underlying64, rfl, rfl, Try.underlying3, rfl⟩⟩
instance : TFldV Try.prog 64 2 2 := ⟨⟨_, _, _, Try.underlying64, rfl, rfl, Try.underlying3, rfl⟩⟩
instance : TFlat Try.prog 64 [.int .u64, .int .i64, .int .i64] := ⟨⟨_, Try.underlying64, by kernel_rfl⟩, by kernel_rfl, by kernel_rfl⟩
instance : TStruct Try.prog 64 [(0, 1), (1, 1), (2, 1)] [(.int .u64 0), (.int .i64 0), (.int .i64 0)] := ⟨let ⟨i, a, b, _, _⟩ := info_of inf64; ⟨i, _, _, a, b, rfl, Try.underlying64, by kernel_rfl⟩⟩
instance : TZeroC Try.prog 65 [.nilFunc] := ⟨let ⟨i, a, b, _, _⟩ := info_of inf65; ⟨i, _, a, b, rfl⟩⟩
instance : TCell Try.prog 65 := ⟨⟨_, Try.underlying65, rfl⟩, let ⟨i, a, _, c, _⟩ := info_of inf65; ⟨i, a, c⟩⟩
instance : TZeroC Try.prog 66 [.nilFunc] := ⟨let ⟨i, a, b, _, _⟩ := info_of inf66; ⟨i, _, a, b, rfl⟩⟩
instance : TCell Try.prog 66 := ⟨⟨_, Try.underlying66, rfl⟩, let ⟨i, a, _, c, _⟩ := info_of inf66; ⟨i, a, c⟩⟩
instance : TZeroC Try.prog 68 [.nilFunc] := ⟨let ⟨i, a, b, _, _⟩ := info_of inf68; ⟨i, _, a, b, rfl⟩⟩
instance : TCell Try.prog 68 := ⟨⟨_, Try.underlying68, rfl⟩, let ⟨i, a, _, c, _⟩ := info_of inf68; ⟨i, a, c⟩⟩
instance : TZeroC Try.prog 69 [.nilFunc] := ⟨let ⟨i, a, b, _, _⟩ := info_of inf69; ⟨i, _, a, b, rfl⟩⟩
instance : TCell Try.prog 69 := ⟨⟨_, Try.underlying69, rfl⟩, let ⟨i, a, _, c, _⟩ := info_of inf69; ⟨i, a, c⟩⟩
instance : TZeroC Try.prog 70 [.nilFunc] := ⟨let ⟨i, a, b, _, _⟩ := info_of inf70; ⟨i, _, a, b, rfl⟩⟩
instance : TCell Try.prog 70 := ⟨⟨_, Try.underlying70, rfl⟩, let ⟨i, a, _, c, _⟩ := info_of inf70; ⟨i, a, c⟩⟩
instance : TZeroC Try.prog 71 [.nilFunc] := ⟨let ⟨i, a, b, _, _⟩ := info_of inf71; ⟨i, _, a, b, rfl⟩⟩
instance : TCell Try.prog 71 := ⟨⟨_, Try.underlying71, rfl⟩, let ⟨i, a, _, c, _⟩ := info_of inf71; ⟨i, a, c⟩⟩
instance : TZeroC Try.prog 72 [.nilFunc] := ⟨let ⟨i, a, b, _, _⟩ := info_of inf72; ⟨i, _, a, b, rfl⟩⟩
instance : TCell Try.prog 72 := ⟨⟨_, Try.underlying72, rfl⟩, let ⟨i, a, _, c, _⟩ := info_of inf72; ⟨i, a, c⟩⟩
instance : TZeroC Try.prog 74 [.nilFunc] := ⟨let ⟨i, a, b, _, _⟩ := info_of inf74; ⟨i, _, a, b, rfl⟩⟩
instance : TCell Try.prog 74 := ⟨⟨_, Try.underlying74, rfl⟩, let ⟨i, a, _, c, _⟩ := info_of inf74; ⟨i, a, c⟩⟩
instance : TZeroC Try.prog 75 [.nilFunc] := ⟨let ⟨i, a, b, _, _⟩ := info_of inf75; ⟨i, _, a, b, rfl⟩⟩
instance : TCell Try.prog 75 := ⟨⟨_, Try.underlying75, rfl⟩, let ⟨i, a, _, c, _⟩ := info_of inf75; ⟨i, a, c⟩⟩
instance : TZeroC Try.prog 76 [.nilFunc] := ⟨let ⟨i, a, b, _, _⟩ := info_of inf76; ⟨i, _, a, b, rfl⟩⟩
instance : TCell Try.prog 76 := ⟨⟨_, Try.underlying76, rfl⟩, let ⟨i, a, _, c, _⟩ := info_of inf76; ⟨i, a, c⟩⟩
instance : TZeroC Try.prog 77 [.nilFunc] := ⟨let ⟨i, a, b, _, _⟩ := info_of inf77; ⟨i, _, a, b, rfl⟩⟩
instance : TCell Try.prog 77 := ⟨⟨_, Try.underlying77, rfl⟩, let ⟨i, a, _, c, _⟩ := info_of inf77; ⟨i, a, c⟩⟩
instance : TZeroC Try.prog 78 [.nilFunc] := ⟨let ⟨i, a, b, _, _⟩ := info_of inf78; ⟨i, _, a, b, rfl⟩⟩
instance : TCell Try.prog 78 := ⟨⟨_, Try.underlying78, rfl⟩, let ⟨i, a, _, c, _⟩ := info_of inf78; ⟨i, a, c⟩⟩
instance : TZeroC Try.prog 79 [.nilFunc] := ⟨let ⟨i, a, b, _, _⟩ := info_of inf79; ⟨i, _, a, b, rfl⟩⟩
instance : TCell Try.prog 79 := ⟨⟨_, Try.underlying79, rfl⟩, let ⟨i, a, _, c, _⟩ := info_of inf79; ⟨i, a, c⟩⟩
instance : TZeroC Try.prog 80 [(.int .u64 0)] := ⟨let ⟨i, a, b, _, _⟩ := info_of inf80; ⟨i, _, a, b, rfl⟩⟩
instance : TCell Try.prog 80 := ⟨⟨_, Try.underlying80, rfl⟩, let ⟨i, a, _, c, _⟩ := info_of inf80; ⟨i, a, c⟩⟩
instance : TInt Try.prog 80 .u64 := ⟨Try.underlying80⟩
instance : TZeroC Try.prog 81 [.nilFunc] := ⟨let ⟨i, a, b, _, _⟩ := info_of inf81; ⟨i, _, a, b, rfl⟩⟩
instance : TCell Try.prog 81 := ⟨⟨_, Try.underlying81, rfl⟩, let ⟨i, a, _, c, _⟩ := info_of inf81; ⟨i, a, c⟩⟩
instance : TZeroC Try.prog 82 [(.int .i64 0)] := ⟨let ⟨i, a, b, _, _⟩ := info_of inf82; ⟨i, _, a, b, rfl⟩⟩
instance : TCell Try.prog 82 := ⟨⟨_, Try.underlying82, rfl⟩, let ⟨i, a, _, c, _⟩ := info_of inf82; ⟨i, a, c⟩⟩
instance : TInt Try.prog 82 .i64 := ⟨Try.underlying82⟩
instance : TZeroC Try.prog 84 [.nilFunc] := ⟨let ⟨i, a, b, _, _⟩ := info_of inf84; ⟨i, _, a, b, rfl⟩⟩
instance : TCell Try.prog 84 := ⟨⟨_, Try.underlying84, rfl⟩, let ⟨i, a, _, c, _⟩ := info_of inf84; ⟨i, a, c⟩⟩
instance : TZeroC Try.prog 85 [.nilFunc] := ⟨let ⟨i, a, b, _, _⟩ := info_of inf85; ⟨i, _, a, b, rfl⟩⟩
instance : TCell Try.prog 85 := ⟨⟨_, Try.underlying85, rfl⟩, let ⟨i, a, _, c, _⟩ := info_of inf85; ⟨i, a, c⟩⟩
instance : TZeroC Try.prog 86 [.nilFunc] := ⟨let ⟨i, a, b, _, _⟩ := info_of inf86; ⟨i, _, a, b, rfl⟩⟩
instance : TCell Try.prog 86 := ⟨⟨_, Try.underlying86, rfl⟩, let ⟨i, a, _, c, _⟩ := info_of inf86; ⟨i, a, c⟩⟩
instance : TZeroC Try.prog 87 [.nilFunc] := ⟨let ⟨i, a, b, _, _⟩ := info_of inf87; ⟨i, _, a, b, rfl⟩⟩
instance : TCell Try.prog 87 := ⟨⟨_, Try.underlying87, rfl⟩, let ⟨i, a, _, c, _⟩ := info_of inf87; ⟨i, a, c⟩⟩
instance : TZeroC Try.prog 88 [.nilFunc] := ⟨let ⟨i, a, b, _, _⟩ := info_of inf88; ⟨i, _, a, b, rfl⟩⟩
instance : TCell Try.prog 88 := ⟨⟨_, Try.underlying88, rfl⟩, let ⟨i, a, _, c, _⟩ := info_of inf88; ⟨i, a, c⟩⟩
instance : TZeroC Try.prog 89 [(.int .u32 0)] := ⟨let ⟨i, a, b, _, _⟩ := info_of inf89; ⟨i, _, a, b, rfl⟩⟩
instance : TCell Try.prog 89 := ⟨⟨_, Try.underlying89, rfl⟩, let ⟨i, a, _, c, _⟩ := info_of inf89; ⟨i, a, c⟩⟩
instance : TInt Try.prog 89 .u32 := ⟨Try.underlying89⟩
instance : TZeroC Try.prog 90 [(.int .u64 0)] := ⟨let ⟨i, a, b, _, _⟩ := info_of inf90; ⟨i, _, a, b, rfl⟩⟩
instance : TCell Try.prog 90 := ⟨⟨_, Try.underlying90, rfl⟩, let ⟨i, a, _, c, _⟩ := info_of inf90; ⟨i, a, c⟩⟩
instance : TInt Try.prog 90 .u64 := ⟨Try.underlying90⟩
instance : TZeroC Try.prog 91 [.nilFunc] := ⟨let ⟨i, a, b, _, _⟩ := info_of inf91; ⟨i, _, a, b, rfl⟩⟩
instance : TCell Try.prog 91 := ⟨⟨_, Try.underlying91, rfl⟩, let ⟨i, a, _, c, _⟩ := info_of inf91; ⟨i, a, c⟩⟩
instance : TZeroC Try.prog 92 [.nilFunc] := ⟨let ⟨i, a, b, _, _⟩ := info_of inf92; ⟨i, _, a, b, rfl⟩⟩
instance : TCell Try.prog 92 := ⟨⟨_, Try.underlying92, rfl⟩, let ⟨i, a, _, c, _⟩ := info_of inf92; ⟨i, a, c⟩⟩
instance : TZeroC Try.prog 93 [.nilFunc] := ⟨let ⟨i, a, b, _, _⟩ := info_of inf93; ⟨i, _, a, b, rfl⟩⟩
instance : TCell Try.prog 93 := ⟨⟨_, Try.underlying93, rfl⟩, let ⟨i, a, _, c, _⟩ := info_of inf93; ⟨i, a, c⟩⟩
instance : TZeroC Try.prog 94 [(.pointer none)] := ⟨let ⟨i, a, b, _, _⟩ := info_of inf94; ⟨i, _, a, b, rfl⟩⟩
instance : TCell Try.prog 94 := ⟨⟨_, Try.underlying94, rfl⟩, let ⟨i, a, _, c, _⟩ := info_of inf94; ⟨i, a, c⟩⟩
instance : TPtr Try.prog 94 := ⟨_, Try.underlying94⟩
instance : TZeroC Try.prog 95 [.nilFunc] := ⟨let ⟨i, a, b, _, _⟩ := info_of inf95; ⟨i, _, a, b, rfl⟩⟩
instance : TCell Try.prog 95 := ⟨⟨_, Try.underlying95, rfl⟩, let ⟨i, a, _, c, _⟩ := info_of inf95; ⟨i, a, c⟩⟩
instance : TZeroC Try.prog 96 [(.pointer none)] := ⟨let ⟨i, a, b, _, _⟩ := info_of inf96; ⟨i, _, a, b, rfl⟩⟩
instance : TCell Try.prog 96 := ⟨⟨_, Try.underlying96, rfl⟩, let ⟨i, a, _, c, _⟩ := info_of inf96; ⟨i, a, c⟩⟩
instance : TPtr Try.prog 96 := ⟨_, Try.underlying96⟩
instance : TZeroC Try.prog 97 [.nilFunc] := ⟨let ⟨i, a, b, _, _⟩ := info_of inf97; ⟨i, _, a, b, rfl⟩⟩
instance : TCell Try.prog 97 := ⟨⟨_, Try.underlying97, rfl⟩, let ⟨i, a, _, c, _⟩ := info_of inf97; ⟨i, a, c⟩⟩
instance : TZeroC Try.prog 98 [.nilFunc] := ⟨let ⟨i, a, b, _, _⟩ := info_of inf98; ⟨i, _, a, b, rfl⟩⟩
instance : TCell Try.prog 98 := ⟨⟨_, Try.underlying98, rfl⟩, let ⟨i, a, _, c, _⟩ := info_of inf98; ⟨i, a, c⟩⟩
instance : TZeroC Try.prog 99 [(.pointer none), (.pointer none), (.pointer none), (.string ByteArray.empty)] := ⟨let ⟨i, a, b, _, _⟩ := info_of inf99; ⟨i, _, a, b, rfl⟩⟩
instance : TAgg Try.prog 99 4 := ⟨⟨_, Try.underlying99, rfl⟩, let ⟨i, a, _, c, _⟩ := info_of inf99; ⟨i, a, c⟩⟩
instance : TFld Try.prog 99 3 3 := ⟨let ⟨i, a, _, c, _⟩ := info_of inf9; ⟨_, _, i, Try.underlying99, rfl, rfl, a, by rw [c]; decide⟩⟩
instance : TFldV Try.prog 99 3 3 := ⟨⟨_, _, _, Try.underlying99, rfl, rfl, Try.underlying9, rfl⟩⟩
instance : TZeroC Try.prog 101 [] := ⟨let ⟨i, a, b, _, _⟩ := info_of inf101; ⟨i, _, a, b, rfl⟩⟩
instance : TAgg Try.prog 101 0 := ⟨⟨_, Try.underlying101, rfl⟩, let ⟨i, a, _, c, _⟩ := info_of inf101; ⟨i, a, c⟩⟩
instance : TZeroC Try.prog 102 [] := ⟨let ⟨i, a, b, _, _⟩ := info_of inf102; ⟨i, _, a, b, rfl⟩⟩
instance : TAgg Try.prog 102 0 := ⟨⟨_, Try.underlying102, rfl⟩, let ⟨i, a, _, c, _⟩ := info_of inf102; ⟨i, a, c⟩⟩
instance : TFldA Try.prog 102 0 0 0 := ⟨let ⟨i, a, _, c, _⟩ := info_of inf101; ⟨_, _, _, i, Try.underlying102, rfl, rfl, Try.underlying101, rfl, a, c⟩⟩
instance : TStruct Try.prog 102 [(0, 0)] [] := ⟨let ⟨i, a, b, _, _⟩ := info_of inf102; ⟨i, _, _, a, b, rfl, Try.underlying102, by kernel_rfl⟩⟩
instance : TZeroC Try.prog 106 [.nilFunc] := ⟨let ⟨i, a, b, _, _⟩ := info_of inf106; ⟨i, _, a, b, rfl⟩⟩
instance : TCell Try.prog 106 := ⟨⟨_, Try.underlying106, rfl⟩, let ⟨i, a, _, c, _⟩ := info_of inf106; ⟨i, a, c⟩⟩
instance : TZeroC Try.prog 107 [(.pointer none)] := ⟨let ⟨i, a, b, _, _⟩ := info_of inf107; ⟨i, _, a, b, rfl⟩⟩
instance : TCell Try.prog 107 := ⟨⟨_, Try.underlying107, rfl⟩, let ⟨i, a, _, c, _⟩ := info_of inf107; ⟨i, a, c⟩⟩
instance : TPtr Try.prog 107 := ⟨_, Try.underlying107⟩
instance : TZeroC Try.prog 110 [(.int .u64 0), (.int .u64 0), (.int .u32 0), (.int .u8 0), (.int .u8 0), (.int .u8 0), (.int .u8 0), .nilFunc, (.pointer none), (.int .i32 0), (.int .i32 0)] := ⟨let ⟨i, a, b, _, _⟩ := info_of inf110; ⟨i, _, a, b, rfl⟩⟩
instance : TAgg Try.prog 110 11 := ⟨⟨_, Try.underlying110, rfl⟩, let ⟨i, a, _, c, _⟩ := info_of inf110; ⟨i, a, c⟩⟩
instance : TFld Try.prog 110 0 0 := ⟨let ⟨i, a, _, c, _⟩ := info_of inf12; ⟨_, _, i, Try.underlying110, rfl, rfl, a, by rw [c]; decide⟩⟩
instance : TFld Try.prog 110 1 1 := ⟨let ⟨i, a, _, c, _⟩ := info_of inf12; ⟨_, _, i, Try.underlying110, rfl, rfl, a, by rw [c]; decide⟩⟩
instance : TFld Try.prog 110 2 2 := ⟨let ⟨i, a, _, c, _⟩ := info_of inf89; ⟨_, _, i, Try.underlying110, rfl, rfl, a, by rw [c]; decide⟩⟩
instance : TFld Try.prog 110 4 4 := ⟨let ⟨i, a, _, c, _⟩ := info_of inf5; ⟨_, _, i, Try.underlying110, rfl, rfl, a, by rw [c]; decide⟩⟩
instance : TFld Try.prog 110 5 5 := ⟨let ⟨i, a, _, c, _⟩ := info_of inf5; ⟨_, _, i, Try.underlying110, rfl, rfl, a, by rw [c]; decide⟩⟩
instance : TFld Try.prog 110 7 7 := ⟨let ⟨i, a, _, c, _⟩ := info_of inf106; ⟨_, _, i, Try.underlying110, rfl, rfl, a, by rw [c]; decide⟩⟩
instance : TFld Try.prog 110 8 8 := ⟨let ⟨i, a, _, c, _⟩ := info_of inf107; ⟨_, _, i, Try.underlying110, rfl, rfl, a, by rw [c]; decide⟩⟩
instance : TFldV Try.prog 110 0 0 := ⟨⟨_, _, _, Try.underlying110, rfl, rfl, Try.underlying12, rfl⟩⟩
instance : TFldV Try.prog 110 1 1 := ⟨⟨_, _, _, Try.underlying110, rfl, rfl, Try.underlying12, rfl⟩⟩
instance : TFldV Try.prog 110 2 2 := ⟨⟨_, _, _, Try.underlying110, rfl, rfl, Try.underlying89, rfl⟩⟩
instance : TFldV Try.prog 110 4 4 := ⟨⟨_, _, _, Try.underlying110, rfl, rfl, Try.underlying5, rfl⟩⟩
instance : TFldV Try.prog 110 5 5 := ⟨⟨_, _, _, Try.underlying110, rfl, rfl, Try.underlying5, rfl⟩⟩
instance : TFldV Try.prog 110 7 7 := ⟨⟨_, _, _, Try.underlying110, rfl, rfl, Try.underlying106, rfl⟩⟩
instance : TFldV Try.prog 110 8 8 := ⟨⟨_, _, _, Try.underlying110, rfl, rfl, Try.underlying107, rfl⟩⟩
instance : TZeroC Try.prog 112 [(.pointer none)] := ⟨let ⟨i, a, b, _, _⟩ := info_of inf112; ⟨i, _, a, b, rfl⟩⟩
instance : TCell Try.prog 112 := ⟨⟨_, Try.underlying112, rfl⟩, let ⟨i, a, _, c, _⟩ := info_of inf112; ⟨i, a, c⟩⟩
instance : TFunc Try.prog 2 := ⟨_, _, Try.func2, rfl, by decide⟩
instance : TFunc Try.prog 3 := ⟨_, _, Try.func3, rfl, by decide⟩
instance : TFunc Try.prog 4 := ⟨_, _, Try.func4, rfl, by decide⟩
instance : TFunc Try.prog 5 := ⟨_, _, Try.func5, rfl, by decide⟩
instance : TFunc Try.prog 6 := ⟨_, _, Try.func6, rfl, by decide⟩
instance : TFunc Try.prog 7 := ⟨_, _, Try.func7, rfl, by decide⟩
instance : TFunc Try.prog 8 := ⟨_, _, Try.func8, rfl, by decide⟩
instance : TFunc Try.prog 9 := ⟨_, _, Try.func9, rfl, by decide⟩
instance : TFunc Try.prog 10 := ⟨_, _, Try.func10, rfl, by decide⟩
instance : TFunc Try.prog 11 := ⟨_, _, Try.func11, rfl, by decide⟩
instance : TFunc Try.prog 12 := ⟨_, _, Try.func12, rfl, by decide⟩
instance : TFunc Try.prog 13 := ⟨_, _, Try.func13, rfl, by decide⟩
instance : TFunc Try.prog 14 := ⟨_, _, Try.func14, rfl, by decide⟩
instance : TFunc Try.prog 15 := ⟨_, _, Try.func15, rfl, by decide⟩
instance : TFunc Try.prog 16 := ⟨_, _, Try.func16, rfl, by decide⟩
instance : TFunc Try.prog 17 := ⟨_, _, Try.func17, rfl, by decide⟩
instance : TFunc Try.prog 18 := ⟨_, _, Try.func18, rfl, by decide⟩
instance : TFunc Try.prog 19 := ⟨_, _, Try.func19, rfl, by decide⟩
instance : TFunc Try.prog 20 := ⟨_, _, Try.func20, rfl, by decide⟩
instance : TFunc Try.prog 21 := ⟨_, _, Try.func21, rfl, by decide⟩
instance : TFunc Try.prog 22 := ⟨_, _, Try.func22, rfl, by decide⟩
instance : TFunc Try.prog 23 := ⟨_, _, Try.func23, rfl, by decide⟩
instance : TFunc Try.prog 24 := ⟨_, _, Try.func24, rfl, by decide⟩
instance : TFunc Try.prog 25 := ⟨_, _, Try.func25, rfl, by decide⟩
instance : TFunc Try.prog 26 := ⟨_, _, Try.func26, rfl, by decide⟩
instance : TFunc Try.prog 27 := ⟨_, _, Try.func27, rfl, by decide⟩
instance : TFunc Try.prog 28 := ⟨_, _, Try.func28, rfl, by decide⟩
instance : TFunc Try.prog 29 := ⟨_, _, Try.func29, rfl, by decide⟩
instance : TFunc Try.prog 30 := ⟨_, _, Try.func30, rfl, by decide⟩
instance : TFunc Try.prog 31 := ⟨_, _, Try.func31, rfl, by decide⟩
instance : TFunc Try.prog 32 := ⟨_, _, Try.func32, rfl, by decide⟩
instance : TFunc Try.prog 33 := ⟨_, _, Try.func33, rfl, by decide⟩
instance : TFunc Try.prog 34 := ⟨_, _, Try.func34, rfl, by decide⟩
instance : TFunc Try.prog 35 := ⟨_, _, Try.func35, rfl, by decide⟩
instance : TFunc Try.prog 36 := ⟨_, _, Try.func36, rfl, by decide⟩
instance : TFunc Try.prog 37 := ⟨_, _, Try.func37, rfl, by decide⟩
instance : TFunc Try.prog 38 := ⟨_, _, Try.func38, rfl, by decide⟩
instance : TFunc Try.prog 39 := ⟨_, _, Try.func39, rfl, by decide⟩
instance : TFunc Try.prog 40 := ⟨_, _, Try.func40, rfl, by decide⟩
instance : TFunc Try.prog 41 := ⟨_, _, Try.func41, rfl, by decide⟩
instance : TFunc Try.prog 42 := ⟨_, _, Try.func42, rfl, by decide⟩
instance : TFunc Try.prog 43 := ⟨_, _, Try.func43, rfl, by decide⟩
instance : TFunc Try.prog 44 := ⟨_, _, Try.func44, rfl, by decide⟩
instance : TFunc Try.prog 45 := ⟨_, _, Try.func45, rfl, by decide⟩
instance : TFunc Try.prog 46 := ⟨_, _, Try.func46, rfl, by decide⟩
instance : TFunc Try.prog 47 := ⟨_, _, Try.func47, rfl, by decide⟩
instance : TFunc Try.prog 48 := ⟨_, _, Try.func48, rfl, by decide⟩
instance : TFunc Try.prog 49 := ⟨_, _, Try.func49, rfl, by decide⟩
instance : TFunc Try.prog 50 := ⟨_, _, Try.func50, rfl, by decide⟩
instance : TFunc Try.prog 51 := ⟨_, _, Try.func51, rfl, by decide⟩
instance : TFunc Try.prog 52 := ⟨_, _, Try.func52, rfl, by decide⟩
instance : TFunc Try.prog 53 := ⟨_, _, Try.func53, rfl, by decide⟩
instance : TFunc Try.prog 54 := ⟨_, _, Try.func54, rfl, by decide⟩
instance : TFunc Try.prog 55 := ⟨_, _, Try.func55, rfl, by decide⟩
instance : TFunc Try.prog 56 := ⟨_, _, Try.func56, rfl, by decide⟩
theorem mixed : Try.prog.follows .mixedOrders = true := by kernel_rfl
end Go.Proofs.Ytdfodcofppgajaa.L
