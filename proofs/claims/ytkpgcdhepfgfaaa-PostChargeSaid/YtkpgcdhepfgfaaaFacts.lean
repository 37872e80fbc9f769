/-
  Facts on the program's types and functions, by program. Own work.
-/
import Derived.Test.YtkpgcdhepfgfaaaMap
import Derived.Test.YtkpgcdhepfgfaaaChecked
import Derived.KernelRfl
namespace Go.Proofs.Ytkpgcdhepfgfaaa.L
open Go.L
theorem info_of {P : Program} {t : TypeId} {z : Value} {s b : Nat} (h : (P.info? t).map (fun i => (i.zero, i.size, i.bytes)) = some (some z, s, b)) : ∃ i, P.info? t = some i ∧ i.zero = some z ∧ i.size = s ∧ i.bytes = b := by
  cases hi : P.info? t with
  | none => rw [hi] at h; cases h
  | some i => rw [hi] at h; simp only [Option.map_some, Option.some.injEq, Prod.mk.injEq] at h; exact ⟨i, rfl, h.1, h.2.1, h.2.2⟩
theorem inf1 : (Try.prog.info? 1).map (fun i => (i.zero, i.size, i.bytes)) = some (some .nilFunc, 1, 8) := by kernel_rfl
theorem inf2 : (Try.prog.info? 2).map (fun i => (i.zero, i.size, i.bytes)) = some (some (.int .i64 0), 1, 8) := by kernel_rfl
theorem inf3 : (Try.prog.info? 3).map (fun i => (i.zero, i.size, i.bytes)) = some (some (.int .i64 0), 1, 8) := by kernel_rfl
theorem inf4 : (Try.prog.info? 4).map (fun i => (i.zero, i.size, i.bytes)) = some (some (.bool false), 1, 1) := by kernel_rfl
theorem inf5 : (Try.prog.info? 5).map (fun i => (i.zero, i.size, i.bytes)) = some (some (.int .u8 0), 1, 1) := by kernel_rfl
theorem inf7 : (Try.prog.info? 7).map (fun i => (i.zero, i.size, i.bytes)) = some (some (.agg #[(.int .i64 0), (.int .i64 0), (.bool false), (.int .u8 0)]), 4, 24) := by kernel_rfl
theorem inf9 : (Try.prog.info? 9).map (fun i => (i.zero, i.size, i.bytes)) = some (some (.string ByteArray.empty), 1, 16) := by kernel_rfl
theorem inf12 : (Try.prog.info? 12).map (fun i => (i.zero, i.size, i.bytes)) = some (some (.int .u64 0), 1, 8) := by kernel_rfl
theorem inf13 : (Try.prog.info? 13).map (fun i => (i.zero, i.size, i.bytes)) = some (some (.agg #[(.string ByteArray.empty), (.int .u64 0)]), 2, 24) := by kernel_rfl
theorem inf18 : (Try.prog.info? 18).map (fun i => (i.zero, i.size, i.bytes)) = some (some (.agg #[(.pointer none)]), 1, 8) := by kernel_rfl
theorem inf20 : (Try.prog.info? 20).map (fun i => (i.zero, i.size, i.bytes)) = some (some .nilIface, 1, 16) := by kernel_rfl
theorem inf21 : (Try.prog.info? 21).map (fun i => (i.zero, i.size, i.bytes)) = some (some (.int .i32 0), 1, 4) := by kernel_rfl
theorem inf22 : (Try.prog.info? 22).map (fun i => (i.zero, i.size, i.bytes)) = some (some (.slice none 0 0), 1, 24) := by kernel_rfl
theorem inf23 : (Try.prog.info? 23).map (fun i => (i.zero, i.size, i.bytes)) = some (some .nilFunc, 1, 8) := by kernel_rfl
theorem inf24 : (Try.prog.info? 24).map (fun i => (i.zero, i.size, i.bytes)) = some (some (.pointer none), 1, 8) := by kernel_rfl
theorem inf25 : (Try.prog.info? 25).map (fun i => (i.zero, i.size, i.bytes)) = some (some (.pointer none), 1, 8) := by kernel_rfl
theorem inf27 : (Try.prog.info? 27).map (fun i => (i.zero, i.size, i.bytes)) = some (some .nilFunc, 1, 8) := by kernel_rfl
theorem inf28 : (Try.prog.info? 28).map (fun i => (i.zero, i.size, i.bytes)) = some (some (.slice none 0 0), 1, 24) := by kernel_rfl
theorem inf29 : (Try.prog.info? 29).map (fun i => (i.zero, i.size, i.bytes)) = some (some (.pointer none), 1, 8) := by kernel_rfl
theorem inf30 : (Try.prog.info? 30).map (fun i => (i.zero, i.size, i.bytes)) = some (some .nilFunc, 1, 8) := by kernel_rfl
theorem inf31 : (Try.prog.info? 31).map (fun i => (i.zero, i.size, i.bytes)) = some (some (.int .u64 0), 1, 8) := by kernel_rfl
theorem inf32 : (Try.prog.info? 32).map (fun i => (i.zero, i.size, i.bytes)) = some (some .nilIface, 1, 16) := by kernel_rfl
theorem inf33 : (Try.prog.info? 33).map (fun i => (i.zero, i.size, i.bytes)) = some (some .nilIface, 1, 16) := by kernel_rfl
theorem inf34 : (Try.prog.info? 34).map (fun i => (i.zero, i.size, i.bytes)) = some (some (.agg #[.nilIface, .nilFunc, (.int .i64 0), (.int .u64 0)]), 4, 40) := by kernel_rfl
theorem inf35 : (Try.prog.info? 35).map (fun i => (i.zero, i.size, i.bytes)) = some (some (.agg #[.nilIface, .nilFunc, (.int .i64 0), (.int .u64 0)]), 4, 40) := by kernel_rfl
theorem inf36 : (Try.prog.info? 36).map (fun i => (i.zero, i.size, i.bytes)) = some (some (.agg #[.nilIface, .nilFunc, (.int .i64 0), (.int .u64 0), (.pointer none)]), 5, 48) := by kernel_rfl
theorem inf37 : (Try.prog.info? 37).map (fun i => (i.zero, i.size, i.bytes)) = some (some (.agg #[.nilIface, .nilFunc, (.int .i64 0), (.int .u64 0), (.pointer none)]), 5, 48) := by kernel_rfl
theorem inf38 : (Try.prog.info? 38).map (fun i => (i.zero, i.size, i.bytes)) = some (some .nilFunc, 1, 8) := by kernel_rfl
theorem inf40 : (Try.prog.info? 40).map (fun i => (i.zero, i.size, i.bytes)) = some (some .nilFunc, 1, 8) := by kernel_rfl
theorem inf41 : (Try.prog.info? 41).map (fun i => (i.zero, i.size, i.bytes)) = some (some .nilFunc, 1, 8) := by kernel_rfl
theorem inf42 : (Try.prog.info? 42).map (fun i => (i.zero, i.size, i.bytes)) = some (some .nilFunc, 1, 8) := by kernel_rfl
theorem inf43 : (Try.prog.info? 43).map (fun i => (i.zero, i.size, i.bytes)) = some (some (.pointer none), 1, 8) := by kernel_rfl
theorem inf44 : (Try.prog.info? 44).map (fun i => (i.zero, i.size, i.bytes)) = some (some (.slice none 0 0), 1, 24) := by kernel_rfl
theorem inf45 : (Try.prog.info? 45).map (fun i => (i.zero, i.size, i.bytes)) = some (some (.slice none 0 0), 1, 24) := by kernel_rfl
theorem inf46 : (Try.prog.info? 46).map (fun i => (i.zero, i.size, i.bytes)) = some (some (.agg #[(.pointer none), (.slice none 0 0), (.slice none 0 0), (.slice none 0 0), (.int .i64 0), (.int .i64 0), (.int .i64 0), (.pointer none), (.int .i64 0), (.int .i64 0), (.slice none 0 0)]), 11, 152) := by kernel_rfl
theorem inf47 : (Try.prog.info? 47).map (fun i => (i.zero, i.size, i.bytes)) = some (some (.agg #[(.pointer none), (.slice none 0 0), (.slice none 0 0), (.slice none 0 0), (.int .i64 0), (.int .i64 0), (.int .i64 0), (.pointer none), (.int .i64 0), (.int .i64 0), (.slice none 0 0)]), 11, 152) := by kernel_rfl
theorem inf48 : (Try.prog.info? 48).map (fun i => (i.zero, i.size, i.bytes)) = some (some .nilFunc, 1, 8) := by kernel_rfl
theorem inf49 : (Try.prog.info? 49).map (fun i => (i.zero, i.size, i.bytes)) = some (some .nilFunc, 1, 8) := by kernel_rfl
theorem inf50 : (Try.prog.info? 50).map (fun i => (i.zero, i.size, i.bytes)) = some (some .nilFunc, 1, 8) := by kernel_rfl
theorem inf51 : (Try.prog.info? 51).map (fun i => (i.zero, i.size, i.bytes)) = some (some .nilFunc, 1, 8) := by kernel_rfl
theorem inf52 : (Try.prog.info? 52).map (fun i => (i.zero, i.size, i.bytes)) = some (some .nilFunc, 1, 8) := by kernel_rfl
theorem inf53 : (Try.prog.info? 53).map (fun i => (i.zero, i.size, i.bytes)) = some (some .nilFunc, 1, 8) := by kernel_rfl
theorem inf54 : (Try.prog.info? 54).map (fun i => (i.zero, i.size, i.bytes)) = some (some (.int .i64 0), 1, 8) := by kernel_rfl
theorem inf55 : (Try.prog.info? 55).map (fun i => (i.zero, i.size, i.bytes)) = some (some .nilFunc, 1, 8) := by kernel_rfl
theorem inf57 : (Try.prog.info? 57).map (fun i => (i.zero, i.size, i.bytes)) = some (some .nilFunc, 1, 8) := by kernel_rfl
theorem inf58 : (Try.prog.info? 58).map (fun i => (i.zero, i.size, i.bytes)) = some (some .nilFunc, 1, 8) := by kernel_rfl
theorem inf59 : (Try.prog.info? 59).map (fun i => (i.zero, i.size, i.bytes)) = some (some (.pointer none), 1, 8) := by kernel_rfl
theorem inf60 : (Try.prog.info? 60).map (fun i => (i.zero, i.size, i.bytes)) = some (some .nilFunc, 1, 8) := by kernel_rfl
theorem inf61 : (Try.prog.info? 61).map (fun i => (i.zero, i.size, i.bytes)) = some (some (.agg #[(.slice none 0 0), (.int .i64 0)]), 2, 32) := by kernel_rfl
theorem inf62 : (Try.prog.info? 62).map (fun i => (i.zero, i.size, i.bytes)) = some (some (.agg #[(.slice none 0 0), (.int .i64 0)]), 2, 32) := by kernel_rfl
theorem inf63 : (Try.prog.info? 63).map (fun i => (i.zero, i.size, i.bytes)) = some (some .nilFunc, 1, 8) := by kernel_rfl
theorem inf64 : (Try.prog.info? 64).map (fun i => (i.zero, i.size, i.bytes)) = some (some .nilFunc, 1, 8) := by kernel_rfl
theorem inf65 : (Try.prog.info? 65).map (fun i => (i.zero, i.size, i.bytes)) = some (some .nilFunc, 1, 8) := by kernel_rfl
theorem inf66 : (Try.prog.info? 66).map (fun i => (i.zero, i.size, i.bytes)) = some (some (.agg #[(.int .i64 0), (.int .i64 0), (.int .i64 0)]), 3, 24) := by kernel_rfl
theorem inf67 : (Try.prog.info? 67).map (fun i => (i.zero, i.size, i.bytes)) = some (some (.agg #[(.int .i64 0), (.int .i64 0), (.int .i64 0)]), 3, 24) := by kernel_rfl
theorem inf68 : (Try.prog.info? 68).map (fun i => (i.zero, i.size, i.bytes)) = some (some .nilFunc, 1, 8) := by kernel_rfl
theorem inf69 : (Try.prog.info? 69).map (fun i => (i.zero, i.size, i.bytes)) = some (some .nilFunc, 1, 8) := by kernel_rfl
theorem inf70 : (Try.prog.info? 70).map (fun i => (i.zero, i.size, i.bytes)) = some (some (.pointer none), 1, 8) := by kernel_rfl
theorem inf71 : (Try.prog.info? 71).map (fun i => (i.zero, i.size, i.bytes)) = some (some .nilFunc, 1, 8) := by kernel_rfl
theorem inf72 : (Try.prog.info? 72).map (fun i => (i.zero, i.size, i.bytes)) = some (some (.pointer none), 1, 8) := by kernel_rfl
theorem inf73 : (Try.prog.info? 73).map (fun i => (i.zero, i.size, i.bytes)) = some (some (.agg #[(.pointer none), (.int .i64 0), (.pointer none), (.pointer none)]), 4, 32) := by kernel_rfl
theorem inf74 : (Try.prog.info? 74).map (fun i => (i.zero, i.size, i.bytes)) = some (some (.agg #[(.pointer none), (.int .i64 0), (.pointer none), (.pointer none)]), 4, 32) := by kernel_rfl
theorem inf75 : (Try.prog.info? 75).map (fun i => (i.zero, i.size, i.bytes)) = some (some .nilFunc, 1, 8) := by kernel_rfl
theorem inf76 : (Try.prog.info? 76).map (fun i => (i.zero, i.size, i.bytes)) = some (some (.agg #[.nilFunc, (.bool false), (.int .u64 0), (.bool false)]), 4, 32) := by kernel_rfl
theorem inf77 : (Try.prog.info? 77).map (fun i => (i.zero, i.size, i.bytes)) = some (some (.agg #[.nilFunc, (.bool false), (.int .u64 0), (.bool false)]), 4, 32) := by kernel_rfl
theorem inf78 : (Try.prog.info? 78).map (fun i => (i.zero, i.size, i.bytes)) = some (some .nilFunc, 1, 8) := by kernel_rfl
theorem inf79 : (Try.prog.info? 79).map (fun i => (i.zero, i.size, i.bytes)) = some (some .nilFunc, 1, 8) := by kernel_rfl
theorem inf80 : (Try.prog.info? 80).map (fun i => (i.zero, i.size, i.bytes)) = some (some (.pointer none), 1, 8) := by kernel_rfl
theorem inf81 : (Try.prog.info? 81).map (fun i => (i.zero, i.size, i.bytes)) = some (some .nilFunc, 1, 8) := by kernel_rfl
theorem inf82 : (Try.prog.info? 82).map (fun i => (i.zero, i.size, i.bytes)) = some (some .nilFunc, 1, 8) := by kernel_rfl
theorem inf83 : (Try.prog.info? 83).map (fun i => (i.zero, i.size, i.bytes)) = some (some (.pointer none), 1, 8) := by kernel_rfl
theorem inf84 : (Try.prog.info? 84).map (fun i => (i.zero, i.size, i.bytes)) = some (some .nilFunc, 1, 8) := by kernel_rfl
theorem inf85 : (Try.prog.info? 85).map (fun i => (i.zero, i.size, i.bytes)) = some (some (.agg #[(.slice none 0 0), (.int .i64 0)]), 2, 32) := by kernel_rfl
theorem inf86 : (Try.prog.info? 86).map (fun i => (i.zero, i.size, i.bytes)) = some (some (.agg #[(.slice none 0 0), (.int .i64 0)]), 2, 32) := by kernel_rfl
theorem inf87 : (Try.prog.info? 87).map (fun i => (i.zero, i.size, i.bytes)) = some (some (.slice none 0 0), 1, 24) := by kernel_rfl
theorem inf88 : (Try.prog.info? 88).map (fun i => (i.zero, i.size, i.bytes)) = some (some .nilFunc, 1, 8) := by kernel_rfl
theorem inf89 : (Try.prog.info? 89).map (fun i => (i.zero, i.size, i.bytes)) = some (some .nilFunc, 1, 8) := by kernel_rfl
theorem inf90 : (Try.prog.info? 90).map (fun i => (i.zero, i.size, i.bytes)) = some (some (.pointer none), 1, 8) := by kernel_rfl
theorem inf92 : (Try.prog.info? 92).map (fun i => (i.zero, i.size, i.bytes)) = some (some .nilFunc, 1, 8) := by kernel_rfl
theorem inf94 : (Try.prog.info? 94).map (fun i => (i.zero, i.size, i.bytes)) = some (some .nilFunc, 1, 8) := by kernel_rfl
theorem inf95 : (Try.prog.info? 95).map (fun i => (i.zero, i.size, i.bytes)) = some (some .nilFunc, 1, 8) := by kernel_rfl
theorem inf96 : (Try.prog.info? 96).map (fun i => (i.zero, i.size, i.bytes)) = some (some .nilFunc, 1, 8) := by kernel_rfl
theorem inf97 : (Try.prog.info? 97).map (fun i => (i.zero, i.size, i.bytes)) = some (some .nilFunc, 1, 8) := by kernel_rfl
theorem inf98 : (Try.prog.info? 98).map (fun i => (i.zero, i.size, i.bytes)) = some (some (.agg #[(.int .i64 0), (.int .i64 0)]), 2, 16) := by kernel_rfl
theorem inf99 : (Try.prog.info? 99).map (fun i => (i.zero, i.size, i.bytes)) = some (some (.agg #[(.int .i64 0), (.int .i64 0)]), 2, 16) := by kernel_rfl
theorem inf100 : (Try.prog.info? 100).map (fun i => (i.zero, i.size, i.bytes)) = some (some .nilFunc, 1, 8) := by kernel_rfl
theorem inf101 : (Try.prog.info? 101).map (fun i => (i.zero, i.size, i.bytes)) = some (some .nilFunc, 1, 8) := by kernel_rfl
theorem inf103 : (Try.prog.info? 103).map (fun i => (i.zero, i.size, i.bytes)) = some (some .nilFunc, 1, 8) := by kernel_rfl
theorem inf104 : (Try.prog.info? 104).map (fun i => (i.zero, i.size, i.bytes)) = some (some .nilFunc, 1, 8) := by kernel_rfl
theorem inf105 : (Try.prog.info? 105).map (fun i => (i.zero, i.size, i.bytes)) = some (some .nilFunc, 1, 8) := by kernel_rfl
theorem inf106 : (Try.prog.info? 106).map (fun i => (i.zero, i.size, i.bytes)) = some (some .nilFunc, 1, 8) := by kernel_rfl
theorem inf107 : (Try.prog.info? 107).map (fun i => (i.zero, i.size, i.bytes)) = some (some .nilFunc, 1, 8) := by kernel_rfl
theorem inf108 : (Try.prog.info? 108).map (fun i => (i.zero, i.size, i.bytes)) = some (some (.agg #[(.pointer none), (.int .i64 0), (.int .u64 0)]), 3, 24) := by kernel_rfl
theorem inf109 : (Try.prog.info? 109).map (fun i => (i.zero, i.size, i.bytes)) = some (some (.agg #[(.pointer none), (.int .i64 0), (.int .u64 0)]), 3, 24) := by kernel_rfl
theorem inf111 : (Try.prog.info? 111).map (fun i => (i.zero, i.size, i.bytes)) = some (some .nilFunc, 1, 8) := by kernel_rfl
theorem inf112 : (Try.prog.info? 112).map (fun i => (i.zero, i.size, i.bytes)) = some (some (.agg #[(.pointer none), .nilFunc, (.int .i64 0), (.int .u64 0), (.int .u64 0), (.int .u64 0)]), 6, 48) := by kernel_rfl
theorem inf113 : (Try.prog.info? 113).map (fun i => (i.zero, i.size, i.bytes)) = some (some (.agg #[(.pointer none), .nilFunc, (.int .i64 0), (.int .u64 0), (.int .u64 0), (.int .u64 0)]), 6, 48) := by kernel_rfl
theorem inf114 : (Try.prog.info? 114).map (fun i => (i.zero, i.size, i.bytes)) = some (some .nilFunc, 1, 8) := by kernel_rfl
theorem inf115 : (Try.prog.info? 115).map (fun i => (i.zero, i.size, i.bytes)) = some (some .nilFunc, 1, 8) := by kernel_rfl
theorem inf116 : (Try.prog.info? 116).map (fun i => (i.zero, i.size, i.bytes)) = some (some .nilFunc, 1, 8) := by kernel_rfl
theorem inf117 : (Try.prog.info? 117).map (fun i => (i.zero, i.size, i.bytes)) = some (some (.agg #[(.pointer none), (.pointer none), (.pointer none), (.string ByteArray.empty)]), 4, 40) := by kernel_rfl
theorem inf119 : (Try.prog.info? 119).map (fun i => (i.zero, i.size, i.bytes)) = some (some (.agg #[]), 0, 0) := by kernel_rfl
theorem inf120 : (Try.prog.info? 120).map (fun i => (i.zero, i.size, i.bytes)) = some (some (.agg #[]), 0, 0) := by kernel_rfl
theorem inf122 : (Try.prog.info? 122).map (fun i => (i.zero, i.size, i.bytes)) = some (some (.int .u32 0), 1, 4) := by kernel_rfl
theorem inf125 : (Try.prog.info? 125).map (fun i => (i.zero, i.size, i.bytes)) = some (some .nilFunc, 1, 8) := by kernel_rfl
theorem inf126 : (Try.prog.info? 126).map (fun i => (i.zero, i.size, i.bytes)) = some (some (.pointer none), 1, 8) := by kernel_rfl
theorem inf129 : (Try.prog.info? 129).map (fun i => (i.zero, i.size, i.bytes)) = some (some (.agg #[(.int .u64 0), (.int .u64 0), (.int .u32 0), (.int .u8 0), (.int .u8 0), (.int .u8 0), (.int .u8 0), .nilFunc, (.pointer none), (.int .i32 0), (.int .i32 0)]), 11, 48) := by kernel_rfl
theorem inf131 : (Try.prog.info? 131).map (fun i => (i.zero, i.size, i.bytes)) = some (some .nilFunc, 1, 8) := by kernel_rfl
theorem inf132 : (Try.prog.info? 132).map (fun i => (i.zero, i.size, i.bytes)) = some (some (.pointer none), 1, 8) := by kernel_rfl
instance : TZeroC Try.prog 1 [.nilFunc] := ⟨let ⟨i, a, b, _, _⟩ := info_of inf1; ⟨i, _, a, b, rfl⟩⟩
instance : TCell Try.prog 1 := ⟨⟨_, Try.underlying1, rfl⟩, let ⟨i, a, _, c, _⟩ := info_of inf1; ⟨i, a, c⟩⟩
instance : TZeroC Try.prog 2 [(.int .i64 0)] := ⟨let ⟨i, a, b, _, _⟩ := info_of inf2; ⟨i, _, a, b, rfl⟩⟩
instance : TCell Try.prog 2 := ⟨⟨_, Try.underlying2, rfl⟩, let ⟨i, a, _, c, _⟩ := info_of inf2; ⟨i, a, c⟩⟩
instance : TInt Try.prog 2 .i64 := ⟨Try.underlying2⟩
instance : TZeroC Try.prog 3 [(.int .i64 0)] := ⟨let ⟨i, a, b, _, _⟩ := info_of inf3; ⟨i, _, a, b, rfl⟩⟩
instance : TCell Try.prog 3 := ⟨⟨_, Try.underlying3, rfl⟩, let ⟨i, a, _, c, _⟩ := info_of inf3; ⟨i, a, c⟩⟩
instance : TInt Try.prog 3 .i64 := ⟨Try.underlying3⟩
instance : TZeroC Try.prog 4 [(.bool false)] := ⟨let ⟨i, a, b, _, _⟩ := info_of inf4; ⟨i, _, a, b, rfl⟩⟩
instance : TCell Try.prog 4 := ⟨⟨_, Try.underlying4, rfl⟩, let ⟨i, a, _, c, _⟩ := info_of inf4; ⟨i, a, c⟩⟩
instance : TBool Try.prog 4 := ⟨Try.underlying4⟩
instance : TZeroC Try.prog 5 [(.int .u8 0)] := ⟨let ⟨i, a, b, _, _⟩ := info_of inf5; ⟨i, _, a, b, rfl⟩⟩
instance : TCell Try.prog 5 := ⟨⟨_, Try.underlying5, rfl⟩, let ⟨i, a, _, c, _⟩ := info_of inf5; ⟨i, a, c⟩⟩
instance : TInt Try.prog 5 .u8 := ⟨Try.underlying5⟩
instance : TZeroC Try.prog 7 [(.int .i64 0), (.int .i64 0), (.bool false), (.int .u8 0)] := ⟨let ⟨i, a, b, _, _⟩ := info_of inf7; ⟨i, _, a, b, rfl⟩⟩
instance : TAgg Try.prog 7 4 := ⟨⟨_, Try.underlying7, rfl⟩, let ⟨i, a, _, c, _⟩ := info_of inf7; ⟨i, a, c⟩⟩
instance : TFld Try.prog 7 0 0 := ⟨let ⟨i, a, _, c, _⟩ := info_of inf2; ⟨_, _, i, Try.underlying7, rfl, rfl, a, by rw [c]; decide⟩⟩
instance : TFld Try.prog 7 1 1 := ⟨let ⟨i, a, _, c, _⟩ := info_of inf3; ⟨_, _, i, Try.underlying7, rfl, rfl, a, by rw [c]; decide⟩⟩
instance : TFld Try.prog 7 2 2 := ⟨let ⟨i, a, _, c, _⟩ := info_of inf4; ⟨_, _, i, Try.underlying7, rfl, rfl, a, by rw [c]; decide⟩⟩
instance : TFldV Try.prog 7 0 0 := ⟨⟨_, _, _, Try.underlying7, rfl, rfl, Try.underlying2, rfl⟩⟩
instance : TFldV Try.prog 7 1 1 := ⟨⟨_, _, _, Try.underlying7, rfl, rfl, Try.underlying3, rfl⟩⟩
instance : TFldV Try.prog 7 2 2 := ⟨⟨_, _, _, Try.underlying7, rfl, rfl, Try.underlying4, rfl⟩⟩
instance : TZeroC Try.prog 9 [(.string ByteArray.empty)] := ⟨let ⟨i, a, b, _, _⟩ := info_of inf9; ⟨i, _, a, b, rfl⟩⟩
instance : TCell Try.prog 9 := ⟨⟨_, Try.underlying9, rfl⟩, let ⟨i, a, _, c, _⟩ := info_of inf9; ⟨i, a, c⟩⟩
instance : TStr Try.prog 9 := ⟨Try.underlying9⟩
instance : TZeroC Try.prog 12 [(.int .u64 0)] := ⟨let ⟨i, a, b, _, _⟩ := info_of inf12; ⟨i, _, a, b, rfl⟩⟩
instance : TCell Try.prog 12 := ⟨⟨_, Try.underlying12, rfl⟩, let ⟨i, a, _, c, _⟩ := info_of inf12; ⟨i, a, c⟩⟩
instance : TInt Try.prog 12 .u64 := ⟨Try.underlying12⟩
instance : TZeroC Try.prog 13 [(.string ByteArray.empty), (.int .u64 0)] := ⟨let ⟨i, a, b, _, _⟩ := info_of inf13; ⟨i, _, a, b, rfl⟩⟩
instance : TAgg Try.prog 13 2 := ⟨⟨_, Try.underlying13, rfl⟩, let ⟨i, a, _, c, _⟩ := info_of inf13; ⟨i, a, c⟩⟩
instance : TFld Try.prog 13 0 0 := ⟨let ⟨i, a, _, c, _⟩ := info_of inf9; ⟨_, _, i, Try.underlying13, rfl, rfl, a, by rw [c]; decide⟩⟩
instance : TFld Try.prog 13 1 1 := ⟨let ⟨i, a, _, c, _⟩ := info_of inf12; ⟨_, _, i, Try.underlying13, rfl, rfl, a, by rw [c]; decide⟩⟩
instance : TFldV Try.prog 13 0 0 := ⟨⟨_, _, _, Try.underlying13, rfl, rfl, Try.underlying9, rfl⟩⟩
instance : TFldV Try.prog 13 1 1 := ⟨⟨_, _, _, Try.underlying13, rfl, rfl, Try.underlying12, rfl⟩⟩
instance : TStruct Try.prog 13 [(0, 1), (1, 1)] [(.string ByteArray.empty), (.int .u64 0)] := ⟨let ⟨i, a, b, _, _⟩ := info_of inf13; ⟨i, _, _, a, b, rfl, Try.underlying13, by kernel_rfl⟩⟩
instance : TZeroC Try.prog 18 [(.pointer none)] := ⟨let ⟨i, a, b, _, _⟩ := info_of inf18; ⟨i, _, a, b, rfl⟩⟩
instance : TAgg Try.prog 18 1 := ⟨⟨_, Try.underlying18, rfl⟩, let ⟨i, a, _, c, _⟩ := info_of inf18; ⟨i, a, c⟩⟩
instance : TZeroC Try.prog 20 [.nilIface] := ⟨let ⟨i, a, b, _, _⟩ := info_of inf20; ⟨i, _, a, b, rfl⟩⟩
instance : TCell Try.prog 20 := ⟨⟨_, Try.underlying20, rfl⟩, let ⟨i, a, _, c, _⟩ := info_of inf20; ⟨i, a, c⟩⟩
instance : TZeroC Try.prog 21 [(.int .i32 0)] := ⟨let ⟨i, a, b, _, _⟩ := info_of inf21; ⟨i, _, a, b, rfl⟩⟩
instance : TCell Try.prog 21 := ⟨⟨_, Try.underlying21, rfl⟩, let ⟨i, a, _, c, _⟩ := info_of inf21; ⟨i, a, c⟩⟩
instance : TInt Try.prog 21 .i32 := ⟨Try.underlying21⟩
instance : TZeroC Try.prog 22 [(.slice none 0 0)] := ⟨let ⟨i, a, b, _, _⟩ := info_of inf22; ⟨i, _, a, b, rfl⟩⟩
instance : TCell Try.prog 22 := ⟨⟨_, Try.underlying22, rfl⟩, let ⟨i, a, _, c, _⟩ := info_of inf22; ⟨i, a, c⟩⟩
instance : TSlice Try.prog 22 5 1 := ⟨let ⟨i, a, _, c, _⟩ := info_of inf5; ⟨i, Try.underlying22, a, c⟩⟩
instance : TElem Try.prog 22 5 1 1 [(.int .u8 0)] := ⟨let ⟨i, a, b, c, d⟩ := info_of inf5; ⟨i, _, Try.underlying22, a, c, d, b, rfl, rfl⟩⟩
instance : TZeroC Try.prog 23 [.nilFunc] := ⟨let ⟨i, a, b, _, _⟩ := info_of inf23; ⟨i, _, a, b, rfl⟩⟩
instance : TCell Try.prog 23 := ⟨⟨_, Try.underlying23, rfl⟩, let ⟨i, a, _, c, _⟩ := info_of inf23; ⟨i, a, c⟩⟩
instance : TZeroC Try.prog 24 [(.pointer none)] := ⟨let ⟨i, a, b, _, _⟩ := info_of inf24; ⟨i, _, a, b, rfl⟩⟩
instance : TCell Try.prog 24 := ⟨⟨_, Try.underlying24, rfl⟩, let ⟨i, a, _, c, _⟩ := info_of inf24; ⟨i, a, c⟩⟩
instance : TPtr Try.prog 24 := ⟨_, Try.underlying24⟩
instance : TZeroC Try.prog 25 [(.pointer none)] := ⟨let ⟨i, a, b, _, _⟩ := info_of inf25; ⟨i, _, a, b, rfl⟩⟩
instance : TCell Try.prog 25 := ⟨⟨_, Try.underlying25, rfl⟩, let ⟨i, a, _, c, _⟩ := info_of inf25; ⟨i, a, c⟩⟩
instance : TPtr Try.prog 25 := ⟨_, Try.underlying25⟩
instance : TZeroC Try.prog 27 [.nilFunc] := ⟨let ⟨i, a, b, _, _⟩ := info_of inf27; ⟨i, _, a, b, rfl⟩⟩
instance : TCell Try.prog 27 := ⟨⟨_, Try.underlying27, rfl⟩, let ⟨i, a, _, c, _⟩ := info_of inf27; ⟨i, a, c⟩⟩
instance : TZeroC Try.prog 28 [(.slice none 0 0)] := ⟨let ⟨i, a, b, _, _⟩ := info_of inf28; ⟨i, _, a, b, rfl⟩⟩
instance : TCell Try.prog 28 := ⟨⟨_, Try.underlying28, rfl⟩, let ⟨i, a, _, c, _⟩ := info_of inf28; ⟨i, a, c⟩⟩
instance : TSlice Try.prog 28 29 1 := ⟨let ⟨i, a, _, c, _⟩ := info_of inf29; ⟨i, Try.underlying28, a, c⟩⟩
instance : TElem Try.prog 28 29 1 8 [(.pointer none)] := ⟨let ⟨i, a, b, c, d⟩ := info_of inf29; ⟨i, _, Try.underlying28, a, c, d, b, rfl, rfl⟩⟩
instance : TZeroC Try.prog 29 [(.pointer none)] := ⟨let ⟨i, a, b, _, _⟩ := info_of inf29; ⟨i, _, a, b, rfl⟩⟩
instance : TCell Try.prog 29 := ⟨⟨_, Try.underlying29, rfl⟩, let ⟨i, a, _, c, _⟩ := info_of inf29; ⟨i, a, c⟩⟩
instance : TPtr Try.prog 29 := ⟨_, Try.underlying29⟩
instance : TZeroC Try.prog 30 [.nilFunc] := ⟨let ⟨i, a, b, _, _⟩ := info_of inf30; ⟨i, _, a, b, rfl⟩⟩
instance : TCell Try.prog 30 := ⟨⟨_, Try.underlying30, rfl⟩, let ⟨i, a, _, c, _⟩ := info_of inf30; ⟨i, a, c⟩⟩
instance : TZeroC Try.prog 31 [(.int .u64 0)] := ⟨let ⟨i, a, b, _, _⟩ := info_of inf31; ⟨i, _, a, b, rfl⟩⟩
instance : TCell Try.prog 31 := ⟨⟨_, Try.underlying31, rfl⟩, let ⟨i, a, _, c, _⟩ := info_of inf31; ⟨i, a, c⟩⟩
instance : TInt Try.prog 31 .u64 := ⟨Try.underlying31⟩
instance : TZeroC Try.prog 32 [.nilIface] := ⟨let ⟨i, a, b, _, _⟩ := info_of inf32; ⟨i, _, a, b, rfl⟩⟩
instance : TCell Try.prog 32 := ⟨⟨_, Try.underlying32, rfl⟩, let ⟨i, a, _, c, _⟩ := info_of inf32; ⟨i, a, c⟩⟩
instance : TZeroC Try.prog 33 [.nilIface] := ⟨let ⟨i, a, b, _, _⟩ := info_of inf33; ⟨i, _, a, b, rfl⟩⟩
instance : TCell Try.prog 33 := ⟨⟨_, Try.underlying33, rfl⟩, let ⟨i, a, _, c, _⟩ := info_of inf33; ⟨i, a, c⟩⟩
instance : TZeroC Try.prog 34 [.nilIface, .nilFunc, (.int .i64 0), (.int .u64 0)] := ⟨let ⟨i, a, b, _, _⟩ := info_of inf34; ⟨i, _, a, b, rfl⟩⟩
instance : TAgg Try.prog 34 4 := ⟨⟨_, Try.underlying34, rfl⟩, let ⟨i, a, _, c, _⟩ := info_of inf34; ⟨i, a, c⟩⟩
instance : TFld Try.prog 34 0 0 := ⟨let ⟨i, a, _, c, _⟩ := info_of inf33; ⟨_, _, i, Try.underlying34, rfl, rfl, a, by rw [c]; decide⟩⟩
instance : TFld Try.prog 34 1 1 := ⟨let ⟨i, a, _, c, _⟩ := info_of inf1; ⟨_, _, i, Try.underlying34, rfl, rfl, a, by rw [c]; decide⟩⟩
instance : TFld Try.prog 34 2 2 := ⟨let ⟨i, a, _, c, _⟩ := info_of inf3; ⟨_, _, i, Try.underlying34, rfl, rfl, a, by rw [c]; decide⟩⟩
instance : TFld Try.prog 34 3 3 := ⟨let ⟨i, a, _, c, _⟩ := info_of inf31; ⟨_, _, i, Try.underlying34, rfl, rfl, a, by rw [c]; decide⟩⟩
instance : TFldV Try.prog 34 0 0 := ⟨⟨_, _, _, Try.underlying34, rfl, rfl, Try.underlying33, rfl⟩⟩
instance : TFldV Try.prog 34 1 1 := ⟨⟨_, _, _, Try.underlying34, rfl, rfl, Try.underlying1, rfl⟩⟩
instance : TFldV Try.prog 34 2 2 := ⟨⟨_, _, _, Try.underlying34, rfl, rfl, Try.underlying3, rfl⟩⟩
instance : TFldV Try.prog 34 3 3 := ⟨⟨_, _, _, Try.underlying34, rfl, rfl, Try.underlying31, rfl⟩⟩
instance : TStruct Try.prog 34 [(0, 1), (1, 1), (2, 1), (3, 1)] [.nilIface, .nilFunc, (.int .i64 0), (.int .u64 0)] := ⟨let ⟨i, a, b, _, _⟩ := info_of inf34; ⟨i, _, _, a, b, rfl, Try.underlying34, by kernel_rfl⟩⟩
instance : TZeroC Try.prog 35 [.nilIface, .nilFunc, (.int .i64 0), (.int .u64 0)] := ⟨let ⟨i, a, b, _, _⟩ := info_of inf35; ⟨i, _, a, b, rfl⟩⟩
instance : TAgg Try.prog 35 4 := ⟨⟨_, Try.underlying35, rfl⟩, let ⟨i, a, _, c, _⟩ := info_of inf35; ⟨i, a, c⟩⟩
instance : TFld Try.prog 35 0 0 := ⟨let ⟨i, a, _, c, _⟩ := info_of inf33; ⟨_, _, i, Try.underlying35, rfl, rfl, a, by rw [c]; decide⟩⟩
instance : TFld Try.prog 35 1 1 := ⟨let ⟨i, a, _, c, _⟩ := info_of inf1; ⟨_, _, i, Try.underlying35, rfl, rfl, a, by rw [c]; decide⟩⟩
instance : TFld Try.prog 35 2 2 := ⟨let ⟨i, a, _, c, _⟩ := info_of inf3; ⟨_, _, i, Try.underlying35, rfl, rfl, a, by rw [c]; decide⟩⟩
instance : TFld Try.prog 35 3 3 := ⟨let ⟨i, a, _, c, _⟩ := info_of inf31; ⟨_, _, i, Try.underlying35, rfl, rfl, a, by rw [c]; decide⟩⟩
instance : TFldV Try.prog 35 0 0 := ⟨⟨_, _, _, Try.underlying35, rfl, rfl, Try.underlying33, rfl⟩⟩
instance : TFldV Try.prog 35 1 1 := ⟨⟨_, _, _, Try.underlying35, rfl, rfl, Try.underlying1, rfl⟩⟩
instance : TFldV Try.prog 35 2 2 := ⟨⟨_, _, _, Try.underlying35, rfl, rfl, Try.underlying3, rfl⟩⟩
instance : TFldV Try.prog 35 3 3 := ⟨⟨_, _, _, Try.underlying35, rfl, rfl, Try.underlying31, rfl⟩⟩
instance : TStruct Try.prog 35 [(0, 1), (1, 1), (2, 1), (3, 1)] [.nilIface, .nilFunc, (.int .i64 0), (.int .u64 0)] := ⟨let ⟨i, a, b, _, _⟩ := info_of inf35; ⟨i, _, _, a, b, rfl, Try.underlying35, by kernel_rfl⟩⟩
instance : TZeroC Try.prog 36 [.nilIface, .nilFunc, (.int .i64 0), (.int .u64 0), (.pointer none)] := ⟨let ⟨i, a, b, _, _⟩ := info_of inf36; ⟨i, _, a, b, rfl⟩⟩
instance : TAgg Try.prog 36 5 := ⟨⟨_, Try.underlying36, rfl⟩, let ⟨i, a, _, c, _⟩ := info_of inf36; ⟨i, a, c⟩⟩
instance : TFld Try.prog 36 0 0 := ⟨let ⟨i, a, _, c, _⟩ := info_of inf35; ⟨_, _, i, Try.underlying36, rfl, rfl, a, by rw [c]; decide⟩⟩
instance : TFld Try.prog 36 1 4 := ⟨let ⟨i, a, _, c, _⟩ := info_of inf24; ⟨_, _, i, Try.underlying36, rfl, rfl, a, by rw [c]; decide⟩⟩
instance : TFldA Try.prog 36 0 0 4 := ⟨let ⟨i, a, _, c, _⟩ := info_of inf35; ⟨_, _, _, i, Try.underlying36, rfl, rfl, Try.underlying35, rfl, a, c⟩⟩
instance : TFldV Try.prog 36 1 4 := ⟨⟨_, _, _, Try.underlying36, rfl, rfl, Try.underlying24, rfl⟩⟩
instance : TStruct Try.prog 36 [(0, 4), (4, 1)] [.nilIface, .nilFunc, (.int .i64 0), (.int .u64 0), (.pointer none)] := ⟨let ⟨i, a, b, _, _⟩ := info_of inf36; ⟨i, _, _, a, b, rfl, Try.underlying36, by kernel_rfl⟩⟩
instance : TZeroC Try.prog 37 [.nilIface, .nilFunc, (.int .i64 0), (.int .u64 0), (.pointer none)] := ⟨let ⟨i, a, b, _, _⟩ := info_of inf37; ⟨i, _, a, b, rfl⟩⟩
instance : TAgg Try.prog 37 5 := ⟨⟨_, Try.underlying37, rfl⟩, let ⟨i, a, _, c, _⟩ := info_of inf37; ⟨i, a, c⟩⟩
instance : TFld Try.prog 37 0 0 := ⟨let ⟨i, a, _, c, _⟩ := info_of inf35; ⟨_, _, i, Try.underlying37, rfl, rfl, a, by rw [c]; decide⟩⟩
instance : TFld Try.prog 37 1 4 := ⟨let ⟨i, a, _, c, _⟩ := info_of inf24; ⟨_, _, i, Try.underlying37, rfl, rfl, a, by rw [c]; decide⟩⟩
instance : TFldA Try.prog 37 0 0 4 := ⟨let ⟨i, a, _, c, _⟩ := info_of inf35; ⟨_, _, _, i, Try.underlying37, rfl, rfl, Try.underlying35, rfl, a, c⟩⟩
instance : TFldV Try.prog 37 1 4 := ⟨⟨_, _, _, Try.underlying37, rfl, rfl, Try.underlying24, rfl⟩⟩
instance : TStruct Try.prog 37 [(0, 4), (4, 1)] [.nilIface, .nilFunc, (.int .i64 0), (.int .u64 0), (.pointer none)] := ⟨let ⟨i, a, b, _, _⟩ := info_of inf37; ⟨i, _, _, a, b, rfl, Try.underlying37, by kernel_rfl⟩⟩
instance : TZeroC Try.prog 38 [.nilFunc] := ⟨let ⟨i, a, b, _, _⟩ := info_of inf38; ⟨i, _, a, b, rfl⟩⟩
instance : TCell Try.prog 38 := ⟨⟨_, Try.underlying38, rfl⟩, let ⟨i, a, _, c, _⟩ := info_of inf38; ⟨i, a, c⟩⟩
instance : TZeroC Try.prog 40 [.nilFunc] := ⟨let ⟨i, a, b, _, _⟩ := info_of inf40; ⟨i, _, a, b, rfl⟩⟩
instance : TCell Try.prog 40 := ⟨⟨_, Try.underlying40, rfl⟩, let ⟨i, a, _, c, _⟩ := info_of inf40; ⟨i, a, c⟩⟩
instance : TZeroC Try.prog 41 [.nilFunc] := ⟨let ⟨i, a, b, _, _⟩ := info_of inf41; ⟨i, _, a, b, rfl⟩⟩
instance : TCell Try.prog 41 := ⟨⟨_, Try.underlying41, rfl⟩, let ⟨i, a, _, c, _⟩ := info_of inf41; ⟨i, a, c⟩⟩
instance : TZeroC Try.prog 42 [.nilFunc] := ⟨let ⟨i, a, b, _, _⟩ := info_of inf42; ⟨i, _, a, b, rfl⟩⟩
instance : TCell Try.prog 42 := ⟨⟨_, Try.underlying42, rfl⟩, let ⟨i, a, _, c, _⟩ := info_of inf42; ⟨i, a, c⟩⟩
instance : TZeroC Try.prog 43 [(.pointer none)] := ⟨let ⟨i, a, b, _, _⟩ := info_of inf43; ⟨i, _, a, b, rfl⟩⟩
instance : TCell Try.prog 43 := ⟨⟨_, Try.underlying43, rfl⟩, let ⟨i, a, _, c, _⟩ := info_of inf43; ⟨i, a, c⟩⟩
instance : TPtr Try.prog 43 := ⟨_, Try.underlying43⟩
instance : TZeroC Try.prog 44 [(.slice none 0 0)] := ⟨let ⟨i, a, b, _, _⟩ := info_of inf44; ⟨i, _, a, b, rfl⟩⟩
instance : TCell Try.prog 44 := ⟨⟨_, Try.underlying44, rfl⟩, let ⟨i, a, _, c, _⟩ := info_of inf44; ⟨i, a, c⟩⟩
instance : TSlice Try.prog 44 4 1 := ⟨let ⟨i, a, _, c, _⟩ := info_of inf4; ⟨i, Try.underlying44, a, c⟩⟩
instance : TElem Try.prog 44 4 1 1 [(.bool false)] := ⟨let ⟨i, a, b, c, d⟩ := info_of inf4; ⟨i, _, Try.underlying44, a, c, d, b, rfl, rfl⟩⟩
instance : TZeroC Try.prog 45 [(.slice none 0 0)] := ⟨let ⟨i, a, b, _, _⟩ := info_of inf45; ⟨i, _, a, b, rfl⟩⟩
instance : TCell Try.prog 45 := ⟨⟨_, Try.underlying45, rfl⟩, let ⟨i, a, _, c, _⟩ := info_of inf45; ⟨i, a, c⟩⟩
instance : TSlice Try.prog 45 31 1 := ⟨let ⟨i, a, _, c, _⟩ := info_of inf31; ⟨i, Try.underlying45, a, c⟩⟩
instance : TElem Try.prog 45 31 1 8 [(.int .u64 0)] := ⟨let ⟨i, a, b, c, d⟩ := info_of inf31; ⟨i, _, Try.underlying45, a, c, d, b, rfl, rfl⟩⟩
instance : TZeroC Try.prog 46 [(.pointer none), (.slice none 0 0), (.slice none 0 0), (.slice none 0 0), (.int .i64 0), (.int .i64 0), (.int .i64 0), (.pointer none), (.int .i64 0), (.int .i64 0), (.slice none 0 0)] := ⟨let ⟨i, a, b, _, _⟩ := info_of inf46; ⟨i, _, a, b, rfl⟩⟩
instance : TAgg Try.prog 46 11 := ⟨⟨_, Try.underlying46, rfl⟩, let ⟨i, a, _, c, _⟩ := info_of inf46; ⟨i, a, c⟩⟩
instance : TFld Try.prog 46 0 0 := ⟨let ⟨i, a, _, c, _⟩ := info_of inf24; ⟨_, _, i, Try.underlying46, rfl, rfl, a, by rw [c]; decide⟩⟩
instance : TFld Try.prog 46 1 1 := ⟨let ⟨i, a, _, c, _⟩ := info_of inf28; ⟨_, _, i, Try.underlying46, rfl, rfl, a, by rw [c]; decide⟩⟩
instance : TFld Try.prog 46 2 2 := ⟨let ⟨i, a, _, c, _⟩ := info_of inf44; ⟨_, _, i, Try.underlying46, rfl, rfl, a, by rw [c]; decide⟩⟩
instance : TFld Try.prog 46 3 3 := ⟨let ⟨i, a, _, c, _⟩ := info_of inf45; ⟨_, _, i, Try.underlying46, rfl, rfl, a, by rw [c]; decide⟩⟩
instance : TFld Try.prog 46 4 4 := ⟨let ⟨i, a, _, c, _⟩ := info_of inf3; ⟨_, _, i, Try.underlying46, rfl, rfl, a, by rw [c]; decide⟩⟩
instance : TFld Try.prog 46 5 5 := ⟨let ⟨i, a, _, c, _⟩ := info_of inf3; ⟨_, _, i, Try.underlying46, rfl, rfl, a, by rw [c]; decide⟩⟩
instance : TFld Try.prog 46 6 6 := ⟨let ⟨i, a, _, c, _⟩ := info_of inf3; ⟨_, _, i, Try.underlying46, rfl, rfl, a, by rw [c]; decide⟩⟩
instance : TFld Try.prog 46 7 7 := ⟨let ⟨i, a, _, c, _⟩ := info_of inf29; ⟨_, _, i, Try.underlying46, rfl, rfl, a, by rw [c]; decide⟩⟩
instance : TFld Try.prog 46 8 8 := ⟨let ⟨i, a, _, c, _⟩ := info_of inf3; ⟨_, _, i, Try.underlying46, rfl, rfl, a, by rw [c]; decide⟩⟩
instance : TFld Try.prog 46 9 9 := ⟨let ⟨i, a, _, c, _⟩ := info_of inf3; ⟨_, _, i, Try.underlying46, rfl, rfl, a, by rw [c]; decide⟩⟩
instance : TFld Try.prog 46 10 10 := ⟨let ⟨i, a, _, c, _⟩ := info_of inf28; ⟨_, _, i, Try.underlying46, rfl, rfl, a, by rw [c]; decide⟩⟩
instance : TFldV Try.prog 46 0 0 := ⟨⟨_, _, _, Try.underlying46, rfl, rfl, Try.underlying24, rfl⟩⟩
instance : TFldV Try.prog 46 1 1 := ⟨⟨_, _, _, Try.underlying46, rfl, rfl, Try.underlying28, rfl⟩⟩
instance : TFldV Try.prog 46 2 2 := ⟨⟨_, _, _, Try.underlying46, rfl, rfl, Try.underlying44, rfl⟩⟩
instance : TFldV Try.prog 46 3 3 := ⟨⟨_, _, _, Try.underlying46, rfl, rfl, Try.underlying45, rfl⟩⟩
instance : TFldV Try.prog 46 4 4 := ⟨⟨_, _, _, Try.underlying46, rfl, rfl, Try.underlying3, rfl⟩⟩
instance : TFldV Try.prog 46 5 5 := ⟨⟨_, _, _, Try.underlying46, rfl, rfl, Try.underlying3, rfl⟩⟩
instance : TFldV Try.prog 46 6 6 := ⟨⟨_, _, _, Try.underlying46, rfl, rfl, Try.underlying3, rfl⟩⟩
instance : TFldV Try.prog 46 7 7 := ⟨⟨_, _, _, Try.underlying46, rfl, rfl, Try.underlying29, rfl⟩⟩
instance : TFldV Try.prog 46 8 8 := ⟨⟨_, _, _, Try.underlying46, rfl, rfl, Try.underlying3, rfl⟩⟩
instance : TFldV Try.prog 46 9 9 := ⟨⟨_, _, _, Try.underlying46, rfl, rfl, Try.underlying3, rfl⟩⟩
instance : TFldV Try.prog 46 10 10 := ⟨⟨_, _, _, Try.underlying46, rfl, rfl, Try.underlying28, rfl⟩⟩
instance : TStruct Try.prog 46 [(0, 1), (1, 1), (2, 1), (3, 1), (4, 1), (5, 1), (6, 1), (7, 1), (8, 1), (9, 1), (10, 1)] [(.pointer none), (.slice none 0 0), (.slice none 0 0), (.slice none 0 0), (.int .i64 0), (.int .i64 0), (.int .i64 0), (.pointer none), (.int .i64 0), (.int .i64 0), (.slice none 0 0)] := ⟨let ⟨i, a, b, _, _⟩ := info_of inf46; ⟨i, _, _, a, b, rfl, Try.underlying46, by kernel_rfl⟩⟩
instance : TZeroC Try.prog 47 [(.pointer none), (.slice none 0 0), (.slice none 0 0), (.slice none 0 0), (.int .i64 0), (.int .i64 0), (.int .i64 0), (.pointer none), (.int .i64 0), (.int .i64 0), (.slice none 0 0)] := ⟨let ⟨i, a, b, _, _⟩ := info_of inf47; ⟨i, _, a, b, rfl⟩⟩
instance : TAgg Try.prog 47 11 := ⟨⟨_, Try.underlying47, rfl⟩, let ⟨i, a, _, c, _⟩ := info_of inf47; ⟨i, a, c⟩⟩
instance : TFld Try.prog 47 0 0 := ⟨let ⟨i, a, _, c, _⟩ := info_of inf24; ⟨_, _, i, Try.underlying47, rfl, rfl, a, by rw [c]; decide⟩⟩
instance : TFld Try.prog 47 1 1 := ⟨let ⟨i, a, _, c, _⟩ := info_of inf28; ⟨_, _, i, Try.underlying47, rfl, rfl, a, by rw [c]; decide⟩⟩
instance : TFld Try.prog 47 2 2 := ⟨let ⟨i, a, _, c, _⟩ := info_of inf44; ⟨_, _, i, Try.underlying47, rfl, rfl, a, by rw [c]; decide⟩⟩
instance : TFld Try.prog 47 3 3 := ⟨let ⟨i, a, _, c, _⟩ := info_of inf45; ⟨_, _, i, Try.underlying47, rfl, rfl, a, by rw [c]; decide⟩⟩
instance : TFld Try.prog 47 4 4 := ⟨let ⟨i, a, _, c, _⟩ := info_of inf3; ⟨_, _, i, Try.underlying47, rfl, rfl, a, by rw [c]; decide⟩⟩
instance : TFld Try.prog 47 5 5 := ⟨let ⟨i, a, _, c, _⟩ := info_of inf3; ⟨_, _, i, Try.underlying47, rfl, rfl, a, by rw [c]; decide⟩⟩
instance : TFld Try.prog 47 6 6 := ⟨let ⟨i, a, _, c, _⟩ := info_of inf3; ⟨_, _, i, Try.underlying47, rfl, rfl, a, by rw [c]; decide⟩⟩
instance : TFld Try.prog 47 7 7 := ⟨let ⟨i, a, _, c, _⟩ := info_of inf29; ⟨_, _, i, Try.underlying47, rfl, rfl, a, by rw [c]; decide⟩⟩
instance : TFld Try.prog 47 8 8 := ⟨let ⟨i, a, _, c, _⟩ := info_of inf3; ⟨_, _, i, Try.underlying47, rfl, rfl, a, by rw [c]; decide⟩⟩
instance : TFld Try.prog 47 9 9 := ⟨let ⟨i, a, _, c, _⟩ := info_of inf3; ⟨_, _, i, Try.underlying47, rfl, rfl, a, by rw [c]; decide⟩⟩
instance : TFld Try.prog 47 10 10 := ⟨let ⟨i, a, _, c, _⟩ := info_of inf28; ⟨_, _, i, Try.underlying47, rfl, rfl, a, by rw [c]; decide⟩⟩
instance : TFldV Try.prog 47 0 0 := ⟨⟨_, _, _, Try.underlying47, rfl, rfl, Try.underlying24, rfl⟩⟩
instance : TFldV Try.prog 47 1 1 := ⟨⟨_, _, _, Try.underlying47, rfl, rfl, Try.underlying28, rfl⟩⟩
instance : TFldV Try.prog 47 2 2 := ⟨⟨_, _, _, Try.underlying47, rfl, rfl, Try.underlying44, rfl⟩⟩
instance : TFldV Try.prog 47 3 3 := ⟨⟨_, _, _, Try.underlying47, rfl, rfl, Try.underlying45, rfl⟩⟩
instance : TFldV Try.prog 47 4 4 := ⟨⟨_, _, _, Try.underlying47, rfl, rfl, Try.underlying3, rfl⟩⟩
instance : TFldV Try.prog 47 5 5 := ⟨⟨_, _, _, Try.underlying47, rfl, rfl, Try.underlying3, rfl⟩⟩
instance : TFldV Try.prog 47 6 6 := ⟨⟨_, _, _, Try.underlying47, rfl, rfl, Try.underlying3, rfl⟩⟩
instance : TFldV Try.prog 47 7 7 := ⟨⟨_, _, _, Try.underlying47, rfl, rfl, Try.underlying29, rfl⟩⟩
instance : TFldV Try.prog 47 8 8 := ⟨⟨_, _, _, Try.underlying47, rfl, rfl, Try.underlying3, rfl⟩⟩
instance : TFldV Try.prog 47 9 9 := ⟨⟨_, _, _, Try.underlying47, rfl, rfl, Try.underlying3, rfl⟩⟩
instance : TFldV Try.prog 47 10 10 := ⟨⟨_, _, _, Try.underlying47, rfl, rfl, Try.underlying28, rfl⟩⟩
instance : TStruct Try.prog 47 [(0, 1), (1, 1), (2, 1), (3, 1), (4, 1), (5, 1), (6, 1), (7, 1), (8, 1), (9, 1), (10, 1)] [(.pointer none), (.slice none 0 0), (.slice none 0 0), (.slice none 0 0), (.int .i64 0), (.int .i64 0), (.int .i64 0), (.pointer none), (.int .i64 0), (.int .i64 0), (.slice none 0 0)] := ⟨let ⟨i, a, b, _, _⟩ := info_of inf47; ⟨i, _, _, a, b, rfl, Try.underlying47, by kernel_rfl⟩⟩
instance : TZeroC Try.prog 48 [.nilFunc] := ⟨let ⟨i, a, b, _, _⟩ := info_of inf48; ⟨i, _, a, b, rfl⟩⟩
instance : TCell Try.prog 48 := ⟨⟨_, Try.underlying48, rfl⟩, let ⟨i, a, _, c, _⟩ := info_of inf48; ⟨i, a, c⟩⟩
instance : TZeroC Try.prog 49 [.nilFunc] := ⟨let ⟨i, a, b, _, _⟩ := info_of inf49; ⟨i, _, a, b, rfl⟩⟩
instance : TCell Try.prog 49 := ⟨⟨_, Try.underlying49, rfl⟩, let ⟨i, a, _, c, _⟩ := info_of inf49; ⟨i, a, c⟩⟩
instance : TZeroC Try.prog 50 [.nilFunc] := ⟨let ⟨i, a, b, _, _⟩ := info_of inf50; ⟨i, _, a, b, rfl⟩⟩
instance : TCell Try.prog 50 := ⟨⟨_, Try.underlying50, rfl⟩, let ⟨i, a, _, c, _⟩ := info_of inf50; ⟨i, a, c⟩⟩
instance : TZeroC Try.prog 51 [.nilFunc] := ⟨let ⟨i, a, b, _, _⟩ := info_of inf51; ⟨i, _, a, b, rfl⟩⟩
instance : TCell Try.prog 51 := ⟨⟨_, Try.underlying51, rfl⟩, let ⟨i, a, _, c, _⟩ := info_of inf51; ⟨i, a, c⟩⟩
instance : TZeroC Try.prog 52 [.nilFunc] := ⟨let ⟨i, a, b, _, _⟩ := info_of inf52; ⟨i, _, a, b, rfl⟩⟩
instance : TCell Try.prog 52 := ⟨⟨_, Try.underlying52, rfl⟩, let ⟨i, a, _, c, _⟩ := info_of inf52; ⟨i, a, c⟩⟩
instance : TZeroC Try.prog 53 [.nilFunc] := ⟨let ⟨i, a, b, _, _⟩ := info_of inf53; ⟨i, _, a, b, rfl⟩⟩
instance : TCell Try.prog 53 := ⟨⟨_, Try.underlying53, rfl⟩, let ⟨i, a, _, c, _⟩ := info_of inf53; ⟨i, a, c⟩⟩
instance : TZeroC Try.prog 54 [(.int .i64 0)] := ⟨let ⟨i, a, b, _, _⟩ := info_of inf54; ⟨i, _, a, b, rfl⟩⟩
instance : TCell Try.prog 54 := ⟨⟨_, Try.underlying54, rfl⟩, let ⟨i, a, _, c, _⟩ := info_of inf54; ⟨i, a, c⟩⟩
instance : TInt Try.prog 54 .i64 := ⟨Try.underlying54⟩
instance : TZeroC Try.prog 55 [.nilFunc] := ⟨let ⟨i, a, b, _, _⟩ := info_of inf55; ⟨i, _, a, b, rfl⟩⟩
instance : TCell Try.prog 55 := ⟨⟨_, Try.underlying55, rfl⟩, let ⟨i, a, _, c, _⟩ := info_of inf55; ⟨i, a, c⟩⟩
instance : TZeroC Try.prog 57 [.nilFunc] := ⟨let ⟨i, a, b, _, _⟩ := info_of inf57; ⟨i, _, a, b, rfl⟩⟩
instance : TCell Try.prog 57 := ⟨⟨_, Try.underlying57, rfl⟩, let ⟨i, a, _, c, _⟩ := info_of inf57; ⟨i, a, c⟩⟩
instance : TZeroC Try.prog 58 [.nilFunc] := ⟨let ⟨i, a, b, _, _⟩ := info_of inf58; ⟨i, _, a, b, rfl⟩⟩
instance : TCell Try.prog 58 := ⟨⟨_, Try.underlying58, rfl⟩, let ⟨i, a, _, c, _⟩ := info_of inf58; ⟨i, a, c⟩⟩
instance : TZeroC Try.prog 59 [(.pointer none)] := ⟨let ⟨i, a, b, _, _⟩ := info_of inf59; ⟨i, _, a, b, rfl⟩⟩
instance : TCell Try.prog 59 := ⟨⟨_, Try.underlying59, rfl⟩, let ⟨i, a, _, c, _⟩ := info_of inf59; ⟨i, a, c⟩⟩
instance : TPtr Try.prog 59 := ⟨_, Try.underlying59⟩
instance : TZeroC Try.prog 60 [.nilFunc] := ⟨let ⟨i, a, b, _, _⟩ := info_of inf60; ⟨i, _, a, b, rfl⟩⟩
instance : TCell Try.prog 60 := ⟨⟨_, Try.underlying60, rfl⟩, let ⟨i, a, _, c, _⟩ := info_of inf60; ⟨i, a, c⟩⟩
instance : TZeroC Try.prog 61 [(.slice none 0 0), (.int .i64 0)] := ⟨let ⟨i, a, b, _, _⟩ := info_of inf61; ⟨i, _, a, b, rfl⟩⟩
instance : TAgg Try.prog 61 2 := ⟨⟨_, Try.underlying61, rfl⟩, let ⟨i, a, _, c, _⟩ := info_of inf61; ⟨i, a, c⟩⟩
instance : TFld Try.prog 61 0 0 := ⟨let ⟨i, a, _, c, _⟩ := info_of inf45; ⟨_, _, i, Try.underlying61, rfl, rfl, a, by rw [c]; decide⟩⟩
instance : TFld Try.prog 61 1 1 := ⟨let ⟨i, a, _, c, _⟩ := info_of inf3; ⟨_, _, i, Try.underlying61, rfl, rfl, a, by rw [c]; decide⟩⟩
instance : TFldV Try.prog 61 0 0 := ⟨⟨_, _, _, Try.underlying61, rfl, rfl, Try.underlying45, rfl⟩⟩
instance : TFldV Try.prog 61 1 1 := ⟨⟨_, _, _, Try.underlying61, rfl, rfl, Try.underlying3, rfl⟩⟩
instance : TStruct Try.prog 61 [(0, 1), (1, 1)] [(.slice none 0 0), (.int .i64 0)] := ⟨let ⟨i, a, b, _, _⟩ := info_of inf61; ⟨i, _, _, a, b, rfl, Try.underlying61, by kernel_rfl⟩⟩
instance : TZeroC Try.prog 62 [(.slice none 0 0), (.int .i64 0)] := ⟨let ⟨i, a, b, _, _⟩ := info_of inf62; ⟨i, _, a, b, rfl⟩⟩
instance : TAgg Try.prog 62 2 := ⟨⟨_, Try.underlying62, rfl⟩, let ⟨i, a, _, c, _⟩ := info_of inf62; ⟨i, a, c⟩⟩
instance : TFld Try.prog 62 0 0 := ⟨let ⟨i, a, _, c, _⟩ := info_of inf45; ⟨_, _, i, Try.underlying62, rfl, rfl, a, by rw [c]; decide⟩⟩
instance : TFld Try.prog 62 1 1 := ⟨let ⟨i, a, _, c, _⟩ := info_of inf3; ⟨_, _, i, Try.underlying62, rfl, rfl, a, by rw [c]; decide⟩⟩
instance : TFldV Try.prog 62 0 0 := ⟨⟨_, _, _, Try.underlying62, rfl, rfl, Try.underlying45, rfl⟩⟩
instance : TFldV Try.prog 62 1 1 := ⟨⟨_, _, _, Try.underlying62, rfl, rfl, Try.underlying3, rfl⟩⟩
instance : TStruct Try.prog 62 [(0, 1), (1, 1)] [(.slice none 0 0), (.int .i64 0)] := ⟨let ⟨i, a, b, _, _⟩ := info_of inf62; ⟨i, _, _, a, b, rfl, Try.underlying62, by kernel_rfl⟩⟩
instance : TZeroC Try.prog 63 [.nilFunc] := ⟨let ⟨i, a, b, _, _⟩ := info_of inf63; ⟨i, _, a, b, rfl⟩⟩
instance : TCell Try.prog 63 := ⟨⟨_, Try.underlying63, rfl⟩, let ⟨i, a, _, c, _⟩ := info_of inf63; ⟨i, a, c⟩⟩
instance : TZeroC Try.prog 64 [.nilFunc] := ⟨let ⟨i, a, b, _, _⟩ := info_of inf64; ⟨i, _, a, b, rfl⟩⟩
instance : TCell Try.prog 64 := ⟨⟨_, Try.underlying64, rfl⟩, let ⟨i, a, _, c, _⟩ := info_of inf64; ⟨i, a, c⟩⟩
instance : TZeroC Try.prog 65 [.nilFunc] := ⟨let ⟨i, a, b, _, _⟩ := info_of inf65; ⟨i, _, a, b, rfl⟩⟩
instance : TCell Try.prog 65 := ⟨⟨_, Try.underlying65, rfl⟩, let ⟨i, a, _, c, _⟩ := info_of inf65; ⟨i, a, c⟩⟩
instance : TZeroC Try.prog 66 [(.int .i64 0), (.int .i64 0), (.int .i64 0)] := ⟨let ⟨i, a, b, _, _⟩ := info_of inf66; ⟨i, _, a, b, rfl⟩⟩
instance : TAgg Try.prog 66 3 := ⟨⟨_, Try.underlying66, rfl⟩, let ⟨i, a, _, c, _⟩ := info_of inf66; ⟨i, a, c⟩⟩
instance : TFld Try.prog 66 0 0 := ⟨let ⟨i, a, _, c, _⟩ := info_of inf3; ⟨_, _, i, Try.underlying66, rfl, rfl, a, by rw [c]; decide⟩⟩
instance : TFld Try.prog 66 1 1 := ⟨let ⟨i, a, _, c, _⟩ := info_of inf3; ⟨_, _, i, Try.underlying66, rfl, rfl, a, by rw [c]; decide⟩⟩
instance : TFld Try.prog 66 2 2 := ⟨let ⟨i, a, _, c, _⟩ := info_of inf3; ⟨_, _, i, Try.underlying66, rfl, rfl, a, by rw [c]; decide⟩⟩
instance : TFldV Try.prog 66 0 0 := ⟨⟨_, _, _, Try.underlying66, rfl, rfl, Try.underlying3, rfl⟩⟩
instance : TFldV Try.prog 66 1 1 := ⟨⟨_, _, _, Try.underlying66, rfl, rfl, Try.underlying3, rfl⟩⟩
instance : TFldV Try.prog 66 2 2 := ⟨⟨_, _, _, Try.underlying66, rfl, rfl, Try.underlying3, rfl⟩⟩
instance : TStruct Try.prog 66 [(0, 1), (1, 1), (2, 1)] [(.int .i64 0), (.int .i64 0), (.int .i64 0)] := ⟨let ⟨i, a, b, _, _⟩ := info_of inf66; ⟨i, _, _, a, b, rfl, Try.underlying66, by kernel_rfl⟩⟩
instance : TZeroC Try.prog 67 [(.int .i64 0), (.int .i64 0), (.int .i64 0)] := ⟨let ⟨i, a, b, _, _⟩ := info_of inf67; ⟨i, _, a, b, rfl⟩⟩
instance : TAgg Try.prog 67 3 := ⟨⟨_, Try.underlying67, rfl⟩, let ⟨i, a, _, c, _⟩ := info_of inf67; ⟨i, a, c⟩⟩
instance : TFld Try.prog 67 0 0 := ⟨let ⟨i, a, _, c, _⟩ := info_of inf3; ⟨_, _, i, Try.underlying67, rfl, rfl, a, by rw [c]; decide⟩⟩
instance : TFld Try.prog 67 1 1 := ⟨let ⟨i, a, _, c, _⟩ := info_of inf3; ⟨_, _, i, Try.underlying67, rfl, rfl, a, by rw [c]; decide⟩⟩
instance : TFld Try.prog 67 2 2 := ⟨let ⟨i, a, _, c, _⟩ := info_of inf3; ⟨_, _, i, Try.underlying67, rfl, rfl, a, by rw [c]; decide⟩⟩
instance : TFldV Try.prog 67 0 0 := ⟨⟨_, _, _, Try.underlying67, rfl, rfl, Try.underlying3, rfl⟩⟩
instance : TFldV Try.prog 67 1 1 := ⟨⟨_, _, _, Try.underlying67, rfl, rfl, Try.underlying3, rfl⟩⟩
instance : TFldV Try.prog 67 2 2 := ⟨⟨_, _, _, Try.underlying67, rfl, rfl, Try.underlying3, rfl⟩⟩
instance : TFlat Try.prog 67 [.int .i64, .int .i64, .int .i64] := ⟨⟨_, Try.underlying67, by kernel_rfl⟩, by kernel_rfl, by kernel_rfl⟩
instance : TStruct Try.prog 67 [(0, 1), (1, 1), (2, 1)] [(.int .i64 0), (.int .i64 0), (.int .i64 0)] := ⟨let ⟨i, a, b, _, _⟩ := info_of inf67; ⟨i, _, _, a, b, rfl, Try.underlying67, by kernel_rfl⟩⟩
instance : TZeroC Try.prog 68 [.nilFunc] := ⟨let ⟨i, a, b, _, _⟩ := info_of inf68; ⟨i, _, a, b, rfl⟩⟩
instance : TCell Try.prog 68 := ⟨⟨_, Try.underlying68, rfl⟩, let ⟨i, a, _, c, _⟩ := info_of inf68; ⟨i, a, c⟩⟩
instance : TZeroC Try.prog 69 [.nilFunc] := ⟨let ⟨i, a, b, _, _⟩ := info_of inf69; ⟨i, _, a, b, rfl⟩⟩
instance : TCell Try.prog 69 := ⟨⟨_, Try.underlying69, rfl⟩, let ⟨i, a, _, c, _⟩ := info_of inf69; ⟨i, a, c⟩⟩
instance : TZeroC Try.prog 70 [(.pointer none)] := ⟨let ⟨i, a, b, _, _⟩ := info_of inf70; ⟨i, _, a, b, rfl⟩⟩
instance : TCell Try.prog 70 := ⟨⟨_, Try.underlying70, rfl⟩, let ⟨i, a, _, c, _⟩ := info_of inf70; ⟨i, a, c⟩⟩
instance : TPtr Try.prog 70 := ⟨_, Try.underlying70⟩
instance : TZeroC Try.prog 71 [.nilFunc] := ⟨let ⟨i, a, b, _, _⟩ := info_of inf71; ⟨i, _, a, b, rfl⟩⟩
instance : TCell Try.prog 71 := ⟨⟨_, Try.underlying71, rfl⟩, let ⟨i, a, _, c, _⟩ := info_of inf71; ⟨i, a, c⟩⟩
instance : TZeroC Try.prog 72 [(.pointer none)] := ⟨let ⟨i, a, b, _, _⟩ := info_of inf72; ⟨i, _, a, b, rfl⟩⟩
instance : TCell Try.prog 72 := ⟨⟨_, Try.underlying72, rfl⟩, let ⟨i, a, _, c, _⟩ := info_of inf72; ⟨i, a, c⟩⟩
instance : TPtr Try.prog 72 := ⟨_, Try.underlying72⟩
instance : TZeroC Try.prog 73 [(.pointer none), (.int .i64 0), (.pointer none), (.pointer none)] := ⟨let ⟨i, a, b, _, _⟩ := info_of inf73; ⟨i, _, a, b, rfl⟩⟩
instance : TAgg Try.prog 73 4 := ⟨⟨_, Try.underlying73, rfl⟩, let ⟨i, a, _, c, _⟩ := info_of inf73; ⟨i, a, c⟩⟩
instance : TFld Try.prog 73 0 0 := ⟨let ⟨i, a, _, c, _⟩ := info_of inf25; ⟨_, _, i, Try.underlying73, rfl, rfl, a, by rw [c]; decide⟩⟩
instance : TFld Try.prog 73 1 1 := ⟨let ⟨i, a, _, c, _⟩ := info_of inf3; ⟨_, _, i, Try.underlying73, rfl, rfl, a, by rw [c]; decide⟩⟩
instance : TFld Try.prog 73 2 2 := ⟨let ⟨i, a, _, c, _⟩ := info_of inf72; ⟨_, _, i, Try.underlying73, rfl, rfl, a, by rw [c]; decide⟩⟩
instance : TFld Try.prog 73 3 3 := ⟨let ⟨i, a, _, c, _⟩ := info_of inf72; ⟨_, _, i, Try.underlying73, rfl, rfl, a, by rw [c]; decide⟩⟩
instance : TFldV Try.prog 73 0 0 := ⟨⟨_, _, _, Try.underlying73, rfl, rfl, Try.underlying25, rfl⟩⟩
instance : TFldV Try.prog 73 1 1 := ⟨⟨_, _, _, Try.underlying73, rfl, rfl, Try.underlying3, rfl⟩⟩
instance : TFldV Try.prog 73 2 2 := ⟨⟨_, _, _, Try.underlying73, rfl, rfl, Try.underlying72, rfl⟩⟩
instance : TFldV Try.prog 73 3 3 := ⟨⟨_, _, _, Try.underlying73, rfl, rfl, Try.underlying72, rfl⟩⟩
instance : TStruct Try.prog 73 [(0, 1), (1, 1), (2, 1), (3, 1)] [(.pointer none), (.int .i64 0), (.pointer none), (.pointer none)] := ⟨let ⟨i, a, b, _, _⟩ := info_of inf73; ⟨i, _, _, a, b, rfl, Try.underlying73, by kernel_rfl⟩⟩
instance : TZeroC Try.prog 74 [(.pointer none), (.int .i64 0), (.pointer none), (.pointer none)] := ⟨let ⟨i, a, b, _, _⟩ := info_of inf74; ⟨i, _, a, b, rfl⟩⟩
instance : TAgg Try.prog 74 4 := ⟨⟨_, Try.underlying74, rfl⟩, let ⟨i, a, _, c, _⟩ := info_of inf74; ⟨i, a, c⟩⟩
instance : TFld Try.prog 74 0 0 := ⟨let ⟨i, a, _, c, _⟩ := info_of inf25; ⟨_, _, i, Try.underlying74, rfl, rfl, a, by rw [c]; decide⟩⟩
instance : TFld Try.prog 74 1 1 := ⟨let ⟨i, a, _, c, _⟩ := info_of inf3; ⟨_, _, i, Try.underlying74, rfl, rfl, a, by rw [c]; decide⟩⟩
instance : TFld Try.prog 74 2 2 := ⟨let ⟨i, a, _, c, _⟩ := info_of inf72; ⟨_, _, i, Try.underlying74, rfl, rfl, a, by rw [c]; decide⟩⟩
instance : TFld Try.prog 74 3 3 := ⟨let ⟨i, a, _, c, _⟩ := info_of inf72; ⟨_, _, i, Try.underlying74, rfl, rfl, a, by rw [c]; decide⟩⟩
instance : TFldV Try.prog 74 0 0 := ⟨⟨_, _, _, Try.underlying74, rfl, rfl, Try.underlying25, rfl⟩⟩
instance : TFldV Try.prog 74 1 1 := ⟨⟨_, _, _, Try.underlying74, rfl, rfl, Try.underlying3, rfl⟩⟩
instance : TFldV Try.prog 74 2 2 := ⟨⟨_, _, _, Try.underlying74, rfl, rfl, Try.underlying72, rfl⟩⟩
instance : TFldV Try.prog 74 3 3 := ⟨⟨_, _, _, Try.underlying74, rfl, rfl, Try.underlying72, rfl⟩⟩
instance : TStruct Try.prog 74 [(0, 1), (1, 1), (2, 1), (3, 1)] [(.pointer none), (.int .i64 0), (.pointer none), (.pointer none)] := ⟨let ⟨i, a, b, _, _⟩ := info_of inf74; ⟨i, _, _, a, b, rfl, Try.underlying74, by kernel_rfl⟩⟩
instance : TZeroC Try.prog 75 [.nilFunc] := ⟨let ⟨i, a, b, _, _⟩ := info_of inf75; ⟨i, _, a, b, rfl⟩⟩
instance : TCell Try.prog 75 := ⟨⟨_, Try.underlying75, rfl⟩, let ⟨i, a, _, c, _⟩ := info_of inf75; ⟨i, a, c⟩⟩
instance : TZeroC Try.prog 76 [.nilFunc, (.bool false), (.int .u64 0), (.bool false)] := ⟨let ⟨i, a, b, _, _⟩ := info_of inf76; ⟨i, _, a, b, rfl⟩⟩
instance : TAgg Try.prog 76 4 := ⟨⟨_, Try.underlying76, rfl⟩, let ⟨i, a, _, c, _⟩ := info_of inf76; ⟨i, a, c⟩⟩
instance : TFld Try.prog 76 0 0 := ⟨let ⟨i, a, _, c, _⟩ := info_of inf23; ⟨_, _, i, Try.underlying76, rfl, rfl, a, by rw [c]; decide⟩⟩
instance : TFld Try.prog 76 1 1 := ⟨let ⟨i, a, _, c, _⟩ := info_of inf4; ⟨_, _, i, Try.underlying76, rfl, rfl, a, by rw [c]; decide⟩⟩
instance : TFld Try.prog 76 2 2 := ⟨let ⟨i, a, _, c, _⟩ := info_of inf31; ⟨_, _, i, Try.underlying76, rfl, rfl, a, by rw [c]; decide⟩⟩
instance : TFld Try.prog 76 3 3 := ⟨let ⟨i, a, _, c, _⟩ := info_of inf4; ⟨_, _, i, Try.underlying76, rfl, rfl, a, by rw [c]; decide⟩⟩
instance : TFldV Try.prog 76 0 0 := ⟨⟨_, _, _, Try.underlying76, rfl, rfl, Try.underlying23, rfl⟩⟩
instance : TFldV Try.prog 76 1 1 := ⟨⟨_, _, _, Try.underlying76, rfl, rfl, Try.underlying4, rfl⟩⟩
instance : TFldV Try.prog 76 2 2 := ⟨⟨_, _, _, Try.underlying76, rfl, rfl, Try.underlying31, rfl⟩⟩
instance : TFldV Try.prog 76 3 3 := ⟨⟨_, _, _, Try.underlying76, rfl, rfl, Try.underlying4, rfl⟩⟩
instance : TStruct Try.prog 76 [(0, 1), (1, 1), (2, 1), (3, 1)] [.nilFunc, (.bool false), (.int .u64 0), (.bool false)] := ⟨let ⟨i, a, b, _, _⟩ := info_of inf76; ⟨i, _, _, a, b, rfl, Try.underlying76, by kernel_rfl⟩⟩
instance : TZeroC Try.prog 77 [.nilFunc, (.bool false), (.int .u64 0), (.bool false)] := ⟨let ⟨i, a, b, _, _⟩ := info_of inf77; ⟨i, _, a, b, rfl⟩⟩
instance : TAgg Try.prog 77 4 := ⟨⟨_, Try.underlying77, rfl⟩, let ⟨i, a, _, c, _⟩ := info_of inf77; ⟨i, a, c⟩⟩
instance : TFld Try.prog 77 0 0 := ⟨let ⟨i, a, _, c, _⟩ := info_of inf23; ⟨_, _, i, Try.underlying77, rfl, rfl, a, by rw [c]; decide⟩⟩
instance : TFld Try.prog 77 1 1 := ⟨let ⟨i, a, _, c, _⟩ := info_of inf4; ⟨_, _, i, Try.underlying77, rfl, rfl, a, by rw [c]; decide⟩⟩
instance : TFld Try.prog 77 2 2 := ⟨let ⟨i, a, _, c, _⟩ := info_of inf31; ⟨_, _, i, Try.underlying77, rfl, rfl, a, by rw [c]; decide⟩⟩
instance : TFld Try.prog 77 3 3 := ⟨let ⟨i, a, _, c, _⟩ := info_of inf4; ⟨_, _, i, Try.underlying77, rfl, rfl, a, by rw [c]; decide⟩⟩
instance : TFldV Try.prog 77 0 0 := ⟨⟨_, _, _, Try.underlying77, rfl, rfl, Try.underlying23, rfl⟩⟩
instance : TFldV Try.prog 77 1 1 := ⟨⟨_, _, _, Try.underlying77, rfl, rfl, Try.underlying4, rfl⟩⟩
instance : TFldV Try.prog 77 2 2 := ⟨⟨_, _, _, Try.underlying77, rfl, rfl, Try.underlying31, rfl⟩⟩
instance : TFldV Try.prog 77 3 3 := ⟨⟨_, _, _, Try.underlying77, rfl, rfl, Try.underlying4, rfl⟩⟩
instance : TStruct Try.prog 77 [(0, 1), (1, 1), (2, 1), (3, 1)] [.nilFunc, (.bool false), (.int .u64 0), (.bool false)] := ⟨let ⟨i, a, b, _, _⟩ := info_of inf77; ⟨i, _, _, a, b, rfl, Try.underlying77, by kernel_rfl⟩⟩
instance : TZeroC Try.prog 78 [.nilFunc] := ⟨let ⟨i, a, b, _, _⟩ := info_of inf78; ⟨i, _, a, b, rfl⟩⟩
instance : TCell Try.prog 78 := ⟨⟨_, Try.underlying78, rfl⟩, let ⟨i, a, _, c, _⟩ := info_of inf78; ⟨i, a, c⟩⟩
instance : TZeroC Try.prog 79 [.nilFunc] := ⟨let ⟨i, a, b, _, _⟩ := info_of inf79; ⟨i, _, a, b, rfl⟩⟩
instance : TCell Try.prog 79 := ⟨⟨_, Try.underlying79, rfl⟩, let ⟨i, a, _, c, _⟩ := info_of inf79; ⟨i, a, c⟩⟩
instance : TZeroC Try.prog 80 [(.pointer none)] := ⟨let ⟨i, a, b, _, _⟩ := info_of inf80; ⟨i, _, a, b, rfl⟩⟩
instance : TCell Try.prog 80 := ⟨⟨_, Try.underlying80, rfl⟩, let ⟨i, a, _, c, _⟩ := info_of inf80; ⟨i, a, c⟩⟩
instance : TPtr Try.prog 80 := ⟨_, Try.underlying80⟩
instance : TZeroC Try.prog 81 [.nilFunc] := ⟨let ⟨i, a, b, _, _⟩ := info_of inf81; ⟨i, _, a, b, rfl⟩⟩
instance : TCell Try.prog 81 := ⟨⟨_, Try.underlying81, rfl⟩, let ⟨i, a, _, c, _⟩ := info_of inf81; ⟨i, a, c⟩⟩
instance : TZeroC Try.prog 82 [.nilFunc] := ⟨let ⟨i, a, b, _, _⟩ := info_of inf82; ⟨i, _, a, b, rfl⟩⟩
instance : TCell Try.prog 82 := ⟨⟨_, Try.underlying82, rfl⟩, let ⟨i, a, _, c, _⟩ := info_of inf82; ⟨i, a, c⟩⟩
instance : TZeroC Try.prog 83 [(.pointer none)] := ⟨let ⟨i, a, b, _, _⟩ := info_of inf83; ⟨i, _, a, b, rfl⟩⟩
instance : TCell Try.prog 83 := ⟨⟨_, Try.underlying83, rfl⟩, let ⟨i, a, _, c, _⟩ := info_of inf83; ⟨i, a, c⟩⟩
instance : TPtr Try.prog 83 := ⟨_, Try.underlying83⟩
instance : TZeroC Try.prog 84 [.nilFunc] := ⟨let ⟨i, a, b, _, _⟩ := info_of inf84; ⟨i, _, a, b, rfl⟩⟩
instance : TCell Try.prog 84 := ⟨⟨_, Try.underlying84, rfl⟩, let ⟨i, a, _, c, _⟩ := info_of inf84; ⟨i, a, c⟩⟩
instance : TZeroC Try.prog 85 [(.slice none 0 0), (.int .i64 0)] := ⟨let ⟨i, a, b, _, _⟩ := info_of inf85; ⟨i, _, a, b, rfl⟩⟩
instance : TAgg Try.prog 85 2 := ⟨⟨_, Try.underlying85, rfl⟩, let ⟨i, a, _, c, _⟩ := info_of inf85; ⟨i, a, c⟩⟩
instance : TFld Try.prog 85 0 0 := ⟨let ⟨i, a, _, c, _⟩ := info_of inf45; ⟨_, _, i, Try.underlying85, rfl, rfl, a, by rw [c]; decide⟩⟩
instance : TFld Try.prog 85 1 1 := ⟨let ⟨i, a, _, c, _⟩ := info_of inf3; ⟨_, _, i, Try.underlying85, rfl, rfl, a, by rw [c]; decide⟩⟩
instance : TFldV Try.prog 85 0 0 := ⟨⟨_, _, _, Try.underlying85, rfl, rfl, Try.underlying45, rfl⟩⟩
instance : TFldV Try.prog 85 1 1 := ⟨⟨_, _, _, Try.underlying85, rfl, rfl, Try.underlying3, rfl⟩⟩
instance : TStruct Try.prog 85 [(0, 1), (1, 1)] [(.slice none 0 0), (.int .i64 0)] := ⟨let ⟨i, a, b, _, _⟩ := info_of inf85; ⟨i, _, _, a, b, rfl, Try.underlying85, by kernel_rfl⟩⟩
instance : TZeroC Try.prog 86 [(.slice none 0 0), (.int .i64 0)] := ⟨let ⟨i, a, b, _, _⟩ := info_of inf86; ⟨i, _, a, b, rfl⟩⟩
instance : TAgg Try.prog 86 2 := ⟨⟨_, Try.underlying86, rfl⟩, let ⟨i, a, _, c, _⟩ := info_of inf86; ⟨i, a, c⟩⟩
instance : TFld Try.prog 86 0 0 := ⟨let ⟨i, a, _, c, _⟩ := info_of inf45; ⟨_, _, i, Try.underlying86, rfl, rfl, a, by rw [c]; decide⟩⟩
instance : TFld Try.prog 86 1 1 := ⟨let ⟨i, a, _, c, _⟩ := info_of inf3; ⟨_, _, i, Try.underlying86, rfl, rfl, a, by rw [c]; decide⟩⟩
instance : TFldV Try.prog 86 0 0 := ⟨⟨_, _, _, Try.underlying86, rfl, rfl, Try.underlying45, rfl⟩⟩
instance : TFldV Try.prog 86 1 1 := ⟨⟨_, _, _, Try.underlying86, rfl, rfl, Try.underlying3, rfl⟩⟩
instance : TStruct Try.prog 86 [(0, 1), (1, 1)] [(.slice none 0 0), (.int .i64 0)] := ⟨let ⟨i, a, b, _, _⟩ := info_of inf86; ⟨i, _, _, a, b, rfl, Try.underlying86, by kernel_rfl⟩⟩
instance : TZeroC Try.prog 87 [(.slice none 0 0)] := ⟨let ⟨i, a, b, _, _⟩ := info_of inf87; ⟨i, _, a, b, rfl⟩⟩
instance : TCell Try.prog 87 := ⟨⟨_, Try.underlying87, rfl⟩, let ⟨i, a, _, c, _⟩ := info_of inf87; ⟨i, a, c⟩⟩
instance : TSlice Try.prog 87 72 1 := ⟨let ⟨i, a, _, c, _⟩ := info_of inf72; ⟨i, Try.underlying87, a, c⟩⟩
instance : TElem Try.prog 87 72 1 8 [(.pointer none)] := ⟨let ⟨i, a, b, c, d⟩ := info_of inf72; ⟨i, _, Try.underlying87, a, c, d, b, rfl, rfl⟩⟩
instance : TZeroC Try.prog 88 [.nilFunc] := ⟨let ⟨i, a, b, _, _⟩ := info_of inf88; ⟨i, _, a, b, rfl⟩⟩
instance : TCell Try.prog 88 := ⟨⟨_, Try.underlying88, rfl⟩, let ⟨i, a, _, c, _⟩ := info_of inf88; ⟨i, a, c⟩⟩
instance : TZeroC Try.prog 89 [.nilFunc] := ⟨let ⟨i, a, b, _, _⟩ := info_of inf89; ⟨i, _, a, b, rfl⟩⟩
instance : TCell Try.prog 89 := ⟨⟨_, Try.underlying89, rfl⟩, let ⟨i, a, _, c, _⟩ := info_of inf89; ⟨i, a, c⟩⟩
instance : TZeroC Try.prog 90 [(.pointer none)] := ⟨let ⟨i, a, b, _, _⟩ := info_of inf90; ⟨i, _, a, b, rfl⟩⟩
instance : TCell Try.prog 90 := ⟨⟨_, Try.underlying90, rfl⟩, let ⟨i, a, _, c, _⟩ := info_of inf90; ⟨i, a, c⟩⟩
instance : TPtr Try.prog 90 := ⟨_, Try.underlying90⟩
instance : TZeroC Try.prog 92 [.nilFunc] := ⟨let ⟨i, a, b, _, _⟩ := info_of inf92; ⟨i, _, a, b, rfl⟩⟩
instance : TCell Try.prog 92 := ⟨⟨_, Try.underlying92, rfl⟩, let ⟨i, a, _, c, _⟩ := info_of inf92; ⟨i, a, c⟩⟩
instance : TZeroC Try.prog 94 [.nilFunc] := ⟨let ⟨i, a, b, _, _⟩ := info_of inf94; ⟨i, _, a, b, rfl⟩⟩
instance : TCell Try.prog 94 := ⟨⟨_, Try.underlying94, rfl⟩, let ⟨i, a, _, c, _⟩ := info_of inf94; ⟨i, a, c⟩⟩
instance : TZeroC Try.prog 95 [.nilFunc] := ⟨let ⟨i, a, b, _, _⟩ := info_of inf95; ⟨i, _, a, b, rfl⟩⟩
instance : TCell Try.prog 95 := ⟨⟨_, Try.underlying95, rfl⟩, let ⟨i, a, _, c, _⟩ := info_of inf95; ⟨i, a, c⟩⟩
instance : TZeroC Try.prog 96 [.nilFunc] := ⟨let ⟨i, a, b, _, _⟩ := info_of inf96; ⟨i, _, a, b, rfl⟩⟩
instance : TCell Try.prog 96 := ⟨⟨_, Try.underlying96, rfl⟩, let ⟨i, a, _, c, _⟩ := info_of inf96; ⟨i, a, c⟩⟩
instance : TZeroC Try.prog 97 [.nilFunc] := ⟨let ⟨i, a, b, _, _⟩ := info_of inf97; ⟨i, _, a, b, rfl⟩⟩
instance : TCell Try.prog 97 := ⟨⟨_, Try.underlying97, rfl⟩, let ⟨i, a, _, c, _⟩ := info_of inf97; ⟨i, a, c⟩⟩
instance : TZeroC Try.prog 98 [(.int .i64 0), (.int .i64 0)] := ⟨let ⟨i, a, b, _, _⟩ := info_of inf98; ⟨i, _, a, b, rfl⟩⟩
instance : TAgg Try.prog 98 2 := ⟨⟨_, Try.underlying98, rfl⟩, let ⟨i, a, _, c, _⟩ := info_of inf98; ⟨i, a, c⟩⟩
instance : TFld Try.prog 98 0 0 := ⟨let ⟨i, a, _, c, _⟩ := info_of inf3; ⟨_, _, i, Try.underlying98, rfl, rfl, a, by rw [c]; decide⟩⟩
instance : TFld Try.prog 98 1 1 := ⟨let ⟨i, a, _, c, _⟩ := info_of inf3; ⟨_, _, i, Try.underlying98, rfl, rfl, a, by rw [c]; decide⟩⟩
instance : TFldV Try.prog 98 0 0 := ⟨⟨_, _, _, Try.underlying98, rfl, rfl, Try.underlying3, rfl⟩⟩
instance : TFldV Try.prog 98 1 1 := ⟨⟨_, _, _, Try.underlying98, rfl, rfl, Try.underlying3, rfl⟩⟩
instance : TStruct Try.prog 98 [(0, 1), (1, 1)] [(.int .i64 0), (.int .i64 0)] := ⟨let ⟨i, a, b, _, _⟩ := info_of inf98; ⟨i, _, _, a, b, rfl, Try.underlying98, by kernel_rfl⟩⟩
instance : TZeroC Try.prog 99 [(.int .i64 0), (.int .i64 0)] := ⟨let ⟨i, a, b, _, _⟩ := info_of inf99; ⟨i, _, a, b, rfl⟩⟩
instance : TAgg Try.prog 99 2 := ⟨⟨_, Try.underlying99, rfl⟩, let ⟨i, a, _, c, _⟩ := info_of inf99; ⟨i, a, c⟩⟩
instance : TFld Try.prog 99 0 0 := ⟨let ⟨i, a, _, c, _⟩ := info_of inf3; ⟨_, _, i, Try.underlying99, rfl, rfl, a, by rw [c]; decide⟩⟩
instance : TFld Try.prog 99 1 1 := ⟨let ⟨i, a, _, c, _⟩ := info_of inf3; ⟨_, _, i, Try.underlying99, rfl, rfl, a, by rw [c]; decide⟩⟩
instance : TFldV Try.prog 99 0 0 := ⟨⟨_, _, _, Try.underlying99, rfl, rfl, Try.underlying3, rfl⟩⟩
instance : TFldV Try.prog 99 1 1 := ⟨⟨_, _, _, Try.underlying99, rfl, rfl, Try.underlying3, rfl⟩⟩
instance : TFlat Try.prog 99 [.int .i64, .int .i64] := ⟨⟨_, Try.underlying99, by kernel_rfl⟩, by kernel_rfl, by kernel_rfl⟩
instance : TStruct Try.prog 99 [(0, 1), (1, 1)] [(.int .i64 0), (.int .i64 0)] := ⟨let ⟨i, a, b, _, _⟩ := info_of inf99; ⟨i, _, _, a, b, rfl, Try.underlying99, by kernel_rfl⟩⟩
instance : TZeroC Try.prog 100 [.nilFunc] := ⟨let ⟨i, a, b, _, _⟩ := info_of inf100; ⟨i, _, a, b, rfl⟩⟩
instance : TCell Try.prog 100 := ⟨⟨_, Try.underlying100, rfl⟩, let ⟨i, a, _, c, _⟩ := info_of inf100; ⟨i, a, c⟩⟩
instance : TZeroC Try.prog 101 [.nilFunc] := ⟨let ⟨i, a, b, _, _⟩ := info_of inf101; ⟨i, _, a, b, rfl⟩⟩
instance : TCell Try.prog 101 := ⟨⟨_, Try.underlying101, rfl⟩, let ⟨i, a, _, c, _⟩ := info_of inf101; ⟨i, a, c⟩⟩
instance : TZeroC Try.prog 103 [.nilFunc] := ⟨let ⟨i, a, b, _, _⟩ := info_of inf103; ⟨i, _, a, b, rfl⟩⟩
instance : TCell Try.prog 103 := ⟨⟨_, Try.underlying103, rfl⟩, let ⟨i, a, _, c, _⟩ := info_of inf103; ⟨i, a, c⟩⟩
instance : TZeroC Try.prog 104 [.nilFunc] := ⟨let ⟨i, a, b, _, _⟩ := info_of inf104; ⟨i, _, a, b, rfl⟩⟩
instance : TCell Try.prog 104 := ⟨⟨_, Try.underlying104, rfl⟩, let ⟨i, a, _, c, _⟩ := info_of inf104; ⟨i, a, c⟩⟩
instance : TZeroC Try.prog 105 [.nilFunc] := ⟨let ⟨i, a, b, _, _⟩ := info_of inf105; ⟨i, _, a, b, rfl⟩⟩
instance : TCell Try.prog 105 := ⟨⟨_, Try.underlying105, rfl⟩, let ⟨i, a, _, c, _⟩ := info_of inf105; ⟨i, a, c⟩⟩
instance : TZeroC Try.prog 106 [.nilFunc] := ⟨let ⟨i, a, b, _, _⟩ := info_of inf106; ⟨i, _, a, b, rfl⟩⟩
instance : TCell Try.prog 106 := ⟨⟨_, Try.underlying106, rfl⟩, let ⟨i, a, _, c, _⟩ := info_of inf106; ⟨i, a, c⟩⟩
instance : TZeroC Try.prog 107 [.nilFunc] := ⟨let ⟨i, a, b, _, _⟩ := info_of inf107; ⟨i, _, a, b, rfl⟩⟩
instance : TCell Try.prog 107 := ⟨⟨_, Try.underlying107, rfl⟩, let ⟨i, a, _, c, _⟩ := info_of inf107; ⟨i, a, c⟩⟩
instance : TZeroC Try.prog 108 [(.pointer none), (.int .i64 0), (.int .u64 0)] := ⟨let ⟨i, a, b, _, _⟩ := info_of inf108; ⟨i, _, a, b, rfl⟩⟩
instance : TAgg Try.prog 108 3 := ⟨⟨_, Try.underlying108, rfl⟩, let ⟨i, a, _, c, _⟩ := info_of inf108; ⟨i, a, c⟩⟩
instance : TFld Try.prog 108 0 0 := ⟨let ⟨i, a, _, c, _⟩ := info_of inf25; ⟨_, _, i, Try.underlying108, rfl, rfl, a, by rw [c]; decide⟩⟩
instance : TFld Try.prog 108 1 1 := ⟨let ⟨i, a, _, c, _⟩ := info_of inf3; ⟨_, _, i, Try.underlying108, rfl, rfl, a, by rw [c]; decide⟩⟩
instance : TFld Try.prog 108 2 2 := ⟨let ⟨i, a, _, c, _⟩ := info_of inf31; ⟨_, _, i, Try.underlying108, rfl, rfl, a, by rw [c]; decide⟩⟩
instance : TFldV Try.prog 108 0 0 := ⟨⟨_, _, _, Try.underlying108, rfl, rfl, Try.underlying25, rfl⟩⟩
instance : TFldV Try.prog 108 1 1 := ⟨⟨_, _, _, Try.underlying108, rfl, rfl, Try.underlying3, rfl⟩⟩
instance : TFldV Try.prog 108 2 2 := ⟨⟨_, _, _, Try.underlying108, rfl, rfl, Try.underlying31, rfl⟩⟩
instance : TStruct Try.prog 108 [(0, 1), (1, 1), (2, 1)] [(.pointer none), (.int .i64 0), (.int .u64 0)] := ⟨let ⟨i, a, b, _, _⟩ := info_of inf108; ⟨i, _, _, a, b, rfl, Try.underlying108, by kernel_rfl⟩⟩
instance : TZeroC Try.prog 109 [(.pointer none), (.int .i64 0), (.int .u64 0)] := ⟨let ⟨i, a, b, _, _⟩ := info_of inf109; ⟨i, _, a, b, rfl⟩⟩
instance : TAgg Try.prog 109 3 := ⟨⟨_, Try.underlying109, rfl⟩, let ⟨i, a, _, c, _⟩ := info_of inf109; ⟨i, a, c⟩⟩
instance : TFld Try.prog 109 0 0 := ⟨let ⟨i, a, _, c, _⟩ := info_of inf25; ⟨_, _, i, Try.underlying109, rfl, rfl, a, by rw [c]; decide⟩⟩
instance : TFld Try.prog 109 1 1 := ⟨let ⟨i, a, _, c, _⟩ := info_of inf3; ⟨_, _, i, Try.underlying109, rfl, rfl, a, by rw [c]; decide⟩⟩
instance : TFld Try.prog 109 2 2 := ⟨let ⟨i, a, _, c, _⟩ := info_of inf31; ⟨_, _, i, Try.underlying109, rfl, rfl, a, by rw [c]; decide⟩⟩
instance : TFldV Try.prog 109 0 0 := ⟨⟨_, _, _, Try.underlying109, rfl, rfl, Try.underlying25, rfl⟩⟩
instance : TFldV Try.prog 109 1 1 := ⟨⟨_, _, _, Try.underlying109, rfl, rfl, Try.underlying3, rfl⟩⟩
instance : TFldV Try.prog 109 2 2 := ⟨⟨_, _, _, Try.underlying109, rfl, rfl, Try.underlying31, rfl⟩⟩
instance : TStruct Try.prog 109 [(0, 1), (1, 1), (2, 1)] [(.pointer none), (.int .i64 0), (.int .u64 0)] := ⟨let ⟨i, a, b, _, _⟩ := info_of inf109; ⟨i, _, _, a, b, rfl, Try.underlying109, by kernel_rfl⟩⟩
instance : TZeroC Try.prog 111 [.nilFunc] := ⟨let ⟨i, a, b, _, _⟩ := info_of inf111; ⟨i, _, a, b, rfl⟩⟩
instance : TCell Try.prog 111 := ⟨⟨_, Try.underlying111, rfl⟩, let ⟨i, a, _, c, _⟩ := info_of inf111; ⟨i, a, c⟩⟩
instance : TZeroC Try.prog 112 [(.pointer none), .nilFunc, (.int .i64 0), (.int .u64 0), (.int .u64 0), (.int .u64 0)] := ⟨let ⟨i, a, b, _, _⟩ := info_of inf112; ⟨i, _, a, b, rfl⟩⟩
instance : TAgg Try.prog 112 6 := ⟨⟨_, Try.underlying112, rfl⟩, let ⟨i, a, _, c, _⟩ := info_of inf112; ⟨i, a, c⟩⟩
instance : TFld Try.prog 112 0 0 := ⟨let ⟨i, a, _, c, _⟩ := info_of inf72; ⟨_, _, i, Try.underlying112, rfl, rfl, a, by rw [c]; decide⟩⟩
instance : TFld Try.prog 112 1 1 := ⟨let ⟨i, a, _, c, _⟩ := info_of inf1; ⟨_, _, i, Try.underlying112, rfl, rfl, a, by rw [c]; decide⟩⟩
instance : TFld Try.prog 112 2 2 := ⟨let ⟨i, a, _, c, _⟩ := info_of inf3; ⟨_, _, i, Try.underlying112, rfl, rfl, a, by rw [c]; decide⟩⟩
instance : TFld Try.prog 112 3 3 := ⟨let ⟨i, a, _, c, _⟩ := info_of inf31; ⟨_, _, i, Try.underlying112, rfl, rfl, a, by rw [c]; decide⟩⟩
instance : TFld Try.prog 112 4 4 := ⟨let ⟨i, a, _, c, _⟩ := info_of inf31; ⟨_, _, i, Try.underlying112, rfl, rfl, a, by rw [c]; decide⟩⟩
instance : TFld Try.prog 112 5 5 := ⟨let ⟨i, a, _, c, _⟩ := info_of inf31; ⟨_, _, i, Try.underlying112, rfl, rfl, a, by rw [c]; decide⟩⟩
instance : TFldV Try.prog 112 0 0 := ⟨⟨_, _, _, Try.underlying112, rfl, rfl, Try.underlying72, rfl⟩⟩
instance : TFldV Try.prog 112 1 1 := ⟨⟨_, _, _, Try.underlying112, rfl, rfl, Try.underlying1, rfl⟩⟩
instance : TFldV Try.prog 112 2 2 := ⟨⟨_, _, _, Try.underlying112, rfl, rfl, Try.underlying3, rfl⟩⟩
instance : TFldV Try.prog 112 3 3 := ⟨⟨_, _, _, Try.underlying112, rfl, rfl, Try.underlying31, rfl⟩⟩
instance : TFldV Try.prog 112 4 4 := ⟨⟨_, _, _, Try.underlying112, rfl, rfl, Try.underlying31, rfl⟩⟩
instance : TFldV Try.prog 112 5 5 := ⟨⟨_, _, _, Try.underlying112, rfl, rfl, Try.underlying31, rfl⟩⟩
instance : TStruct Try.prog 112 [(0, 1), (1, 1), (2, 1), (3, 1), (4, 1), (5, 1)] [(.pointer none), .nilFunc, (.int .i64 0), (.int .u64 0), (.int .u64 0), (.int .u64 0)] := ⟨let ⟨i, a, b, _, _⟩ := info_of inf112; ⟨i, _, _, a, b, rfl, Try.underlying112, by kernel_rfl⟩⟩
instance : TZeroC Try.prog 113 [(.pointer none), .nilFunc, (.int .i64 0), (.int .u64 0), (.int .u64 0), (.int .u64 0)] := ⟨let ⟨i, a, b, _, _⟩ := info_of inf113; ⟨i, _, a, b, rfl⟩⟩
instance : TAgg Try.prog 113 6 := ⟨⟨_, Try.underlying113, rfl⟩, let ⟨i, a, _, c, _⟩ := info_of inf113; ⟨i, a, c⟩⟩
instance : TFld Try.prog 113 0 0 := ⟨let ⟨i, a, _, c, _⟩ := info_of inf72; ⟨_, _, i, Try.underlying113, rfl, rfl, a, by rw [c]; decide⟩⟩
instance : TFld Try.prog 113 1 1 := ⟨let ⟨i, a, _, c, _⟩ := info_of inf1; ⟨_, _, i, Try.underlying113, rfl, rfl, a, by rw [c]; decide⟩⟩
instance : TFld Try.prog 113 2 2 := ⟨let ⟨i, a, _, c, _⟩ := info_of inf3; ⟨_, _, i, Try.underlying113, rfl, rfl, a, by rw [c]; decide⟩⟩
instance : TFld Try.prog 113 3 3 := ⟨let ⟨i, a, _, c, _⟩ := info_of inf31; ⟨_, _, i, Try.underlying113, rfl, rfl, a, by rw [c]; decide⟩⟩
instance : TFld Try.prog 113 4 4 := ⟨let ⟨i, a, _, c, _⟩ := info_of inf31; ⟨_, _, i, Try.underlying113, rfl, rfl, a, by rw [c]; decide⟩⟩
instance : TFld Try.prog 113 5 5 := ⟨let ⟨i, a, _, c, _⟩ := info_of inf31; ⟨_, _, i, Try.underlying113, rfl, rfl, a, by rw [c]; decide⟩⟩
instance : TFldV Try.prog 113 0 0 := ⟨⟨_, _, _, Try.underlying113, rfl, rfl, Try.underlying72, rfl⟩⟩
instance : TFldV Try.prog 113 1 1 := ⟨⟨_, _, _, Try.underlying113, rfl, rfl, Try.underlying1, rfl⟩⟩
instance : TFldV Try.prog 113 2 2 := ⟨⟨_, _, _, Try.underlying113, rfl, rfl, Try.underlying3, rfl⟩⟩
instance : TFldV Try.prog 113 3 3 := ⟨⟨_, _, _, Try.underlying113, rfl, rfl, Try.underlying31, rfl⟩⟩
instance : TFldV Try.prog 113 4 4 := ⟨⟨_, _, _, Try.underlying113, rfl, rfl, Try.underlying31, rfl⟩⟩
instance : TFldV Try.prog 113 5 5 := ⟨⟨_, _, _, Try.underlying113, rfl, rfl, Try.underlying31, rfl⟩⟩
instance : TStruct Try.prog 113 [(0, 1), (1, 1), (2, 1), (3, 1), (4, 1), (5, 1)] [(.pointer none), .nilFunc, (.int .i64 0), (.int .u64 0), (.int .u64 0), (.int .u64 0)] := ⟨let ⟨i, a, b, _, _⟩ := info_of inf113; ⟨i, _, _, a, b, rfl, Try.underlying113, by kernel_rfl⟩⟩
instance : TZeroC Try.prog 114 [.nilFunc] := ⟨let ⟨i, a, b, _, _⟩ := info_of inf114; ⟨i, _, a, b, rfl⟩⟩
instance : TCell Try.prog 114 := ⟨⟨_, Try.underlying114, rfl⟩, let ⟨i, a, _, c, _⟩ := info_of inf114; ⟨i, a, c⟩⟩
instance : TZeroC Try.prog 115 [.nilFunc] := ⟨let ⟨i, a, b, _, _⟩ := info_of inf115; ⟨i, _, a, b, rfl⟩⟩
instance : TCell Try.prog 115 := ⟨⟨_, Try.underlying115, rfl⟩, let ⟨i, a, _, c, _⟩ := info_of inf115; ⟨i, a, c⟩⟩
instance : TZeroC Try.prog 116 [.nilFunc] := ⟨let ⟨i, a, b, _, _⟩ := info_of inf116; ⟨i, _, a, b, rfl⟩⟩
instance : TCell Try.prog 116 := ⟨⟨_, Try.underlying116, rfl⟩, let ⟨i, a, _, c, _⟩ := info_of inf116; ⟨i, a, c⟩⟩
instance : TZeroC Try.prog 117 [(.pointer none), (.pointer none), (.pointer none), (.string ByteArray.empty)] := ⟨let ⟨i, a, b, _, _⟩ := info_of inf117; ⟨i, _, a, b, rfl⟩⟩
instance : TAgg Try.prog 117 4 := ⟨⟨_, Try.underlying117, rfl⟩, let ⟨i, a, _, c, _⟩ := info_of inf117; ⟨i, a, c⟩⟩
instance : TFld Try.prog 117 3 3 := ⟨let ⟨i, a, _, c, _⟩ := info_of inf9; ⟨_, _, i, Try.underlying117, rfl, rfl, a, by rw [c]; decide⟩⟩
instance : TFldV Try.prog 117 3 3 := ⟨⟨_, _, _, Try.underlying117, rfl, rfl, Try.underlying9, rfl⟩⟩
instance : TZeroC Try.prog 119 [] := ⟨let ⟨i, a, b, _, _⟩ := info_of inf119; ⟨i, _, a, b, rfl⟩⟩
instance : TAgg Try.prog 119 0 := ⟨⟨_, Try.underlying119, rfl⟩, let ⟨i, a, _, c, _⟩ := info_of inf119; ⟨i, a, c⟩⟩
instance : TZeroC Try.prog 120 [] := ⟨let ⟨i, a, b, _, _⟩ := info_of inf120; ⟨i, _, a, b, rfl⟩⟩
instance : TAgg Try.prog 120 0 := ⟨⟨_, Try.underlying120, rfl⟩, let ⟨i, a, _, c, _⟩ := info_of inf120; ⟨i, a, c⟩⟩
instance : TFldA Try.prog 120 0 0 0 := ⟨let ⟨i, a, _, c, _⟩ := info_of inf119; ⟨_, _, _, i, Try.underlying120, rfl, rfl, Try.underlying119, rfl, a, c⟩⟩
instance : TStruct Try.prog 120 [(0, 0)] [] := ⟨let ⟨i, a, b, _, _⟩ := info_of inf120; ⟨i, _, _, a, b, rfl, Try.underlying120, by kernel_rfl⟩⟩
instance : TZeroC Try.prog 122 [(.int .u32 0)] := ⟨let ⟨i, a, b, _, _⟩ := info_of inf122; ⟨i, _, a, b, rfl⟩⟩
instance : TCell Try.prog 122 := ⟨⟨_, Try.underlying122, rfl⟩, let ⟨i, a, _, c, _⟩ := info_of inf122; ⟨i, a, c⟩⟩
instance : TInt Try.prog 122 .u32 := ⟨Try.underlying122⟩
instance : TZeroC Try.prog 125 [.nilFunc] := ⟨let ⟨i, a, b, _, _⟩ := info_of inf125; ⟨i, _, a, b, rfl⟩⟩
instance : TCell Try.prog 125 := ⟨⟨_, Try.underlying125, rfl⟩, let ⟨i, a, _, c, _⟩ := info_of inf125; ⟨i, a, c⟩⟩
instance : TZeroC Try.prog 126 [(.pointer none)] := ⟨let ⟨i, a, b, _, _⟩ := info_of inf126; ⟨i, _, a, b, rfl⟩⟩
instance : TCell Try.prog 126 := ⟨⟨_, Try.underlying126, rfl⟩, let ⟨i, a, _, c, _⟩ := info_of inf126; ⟨i, a, c⟩⟩
instance : TPtr Try.prog 126 := ⟨_, Try.underlying126⟩
instance : TZeroC Try.prog 129 [(.int .u64 0), (.int .u64 0), (.int .u32 0), (.int .u8 0), (.int .u8 0), (.int .u8 0), (.int .u8 0), .nilFunc, (.pointer none), (.int .i32 0), (.int .i32 0)] := ⟨let ⟨i, a, b, _, _⟩ := info_of inf129; ⟨i, _, a, b, rfl⟩⟩
instance : TAgg Try.prog 129 11 := ⟨⟨_, Try.underlying129, rfl⟩, let ⟨i, a, _, c, _⟩ := info_of inf129; ⟨i, a, c⟩⟩
instance : TFld Try.prog 129 0 0 := ⟨let ⟨i, a, _, c, _⟩ := info_of inf12; ⟨_, _, i, Try.underlying129, rfl, rfl, a, by rw [c]; decide⟩⟩
instance : TFld Try.prog 129 1 1 := ⟨let ⟨i, a, _, c, _⟩ := info_of inf12; ⟨_, _, i, Try.underlying129, rfl, rfl, a, by rw [c]; decide⟩⟩
instance : TFld Try.prog 129 2 2 := ⟨let ⟨i, a, _, c, _⟩ := info_of inf122; ⟨_, _, i, Try.underlying129, rfl, rfl, a, by rw [c]; decide⟩⟩
instance : TFld Try.prog 129 4 4 := ⟨let ⟨i, a, _, c, _⟩ := info_of inf5; ⟨_, _, i, Try.underlying129, rfl, rfl, a, by rw [c]; decide⟩⟩
instance : TFld Try.prog 129 5 5 := ⟨let ⟨i, a, _, c, _⟩ := info_of inf5; ⟨_, _, i, Try.underlying129, rfl, rfl, a, by rw [c]; decide⟩⟩
instance : TFld Try.prog 129 7 7 := ⟨let ⟨i, a, _, c, _⟩ := info_of inf125; ⟨_, _, i, Try.underlying129, rfl, rfl, a, by rw [c]; decide⟩⟩
instance : TFld Try.prog 129 8 8 := ⟨let ⟨i, a, _, c, _⟩ := info_of inf126; ⟨_, _, i, Try.underlying129, rfl, rfl, a, by rw [c]; decide⟩⟩
instance : TFldV Try.prog 129 0 0 := ⟨⟨_, _, _, Try.underlying129, rfl, rfl, Try.underlying12, rfl⟩⟩
instance : TFldV Try.prog 129 1 1 := ⟨⟨_, _, _, Try.underlying129, rfl, rfl, Try.underlying12, rfl⟩⟩
instance : TFldV Try.prog 129 2 2 := ⟨⟨_, _, _, Try.underlying129, rfl, rfl, Try.underlying122, rfl⟩⟩
instance : TFldV Try.prog 129 4 4 := ⟨⟨_, _, _, Try.underlying129, rfl, rfl, Try.underlying5, rfl⟩⟩
instance : TFldV Try.prog 129 5 5 := ⟨⟨_, _, _, Try.underlying129, rfl, rfl, Try.underlying5, rfl⟩⟩
instance : TFldV Try.prog 129 7 7 := ⟨⟨_, _, _, Try.underlying129, rfl, rfl, Try.underlying125, rfl⟩⟩
instance : TFldV Try.prog 129 8 8 := ⟨⟨_, _, _, Try.underlying129, rfl, rfl, Try.underlying126, rfl⟩⟩
instance : TZeroC Try.prog 131 [.nilFunc] := ⟨let ⟨i, a, b, _, _⟩ := info_of inf131; ⟨i, _, a, b, rfl⟩⟩
instance : TCell Try.prog 131 := ⟨⟨_, Try.underlying131, rfl⟩, let ⟨i, a, _, c, _⟩ := info_of inf131; ⟨i, a, c⟩⟩
instance : TZeroC Try.prog 132 [(.pointer none)] := ⟨let ⟨i, a, b, _, _⟩ := info_of inf132; ⟨i, _, a, b, rfl⟩⟩
instance : TCell Try.prog 132 := ⟨⟨_, Try.underlying132, rfl⟩, let ⟨i, a, _, c, _⟩ := info_of inf132; ⟨i, a, c⟩⟩
instance : TFunc Try.prog 2 := ⟨_, _, Try.func2, rfl, by decide⟩
instance : TFunc Try.prog 3 := ⟨_, _, Try.func3, rfl, by decide⟩
instance : TFunc Try.prog 4 := ⟨_, _, Try.func4, rfl, by decide⟩
instance : TFunc Try.prog 5 := ⟨_, _, Try.func5, rfl, by decide⟩
instance : TFunc Try.prog 6 := ⟨_, _, Try.func6, rfl, by decide⟩
instance : TFunc Try.prog 7 := ⟨_, _, Try.func7, rfl, by decide⟩
instance : TFunc Try.prog 8 := ⟨_, _, Try.func8, rfl, by decide⟩
instance : TFunc Try.prog 9 := ⟨_, _, Try.func9, rfl, by decide⟩
instance : TFunc Try.prog 10 := ⟨_, _, Try.func10, rfl, by decide⟩
instance : TFunc Try.prog 11 := ⟨_, _, Try.func11, rfl, by decide⟩
instance : TFunc Try.prog 12 := ⟨_, _, Try.func12, rfl, by decide⟩
instance : TFunc Try.prog 13 := ⟨_, _, Try.func13, rfl, by decide⟩
instance : TFunc Try.prog 14 := ⟨_, _, Try.func14, rfl, by decide⟩
instance : TFunc Try.prog 15 := ⟨_, _, Try.func15, rfl, by decide⟩
instance : TFunc Try.prog 16 := ⟨_, _, Try.func16, rfl, by decide⟩
instance : TFunc Try.prog 17 := ⟨_, _, Try.func17, rfl, by decide⟩
instance : TFunc Try.prog 18 := ⟨_, _, Try.func18, rfl, by decide⟩
instance : TFunc Try.prog 19 := ⟨_, _, Try.func19, rfl, by decide⟩
instance : TFunc Try.prog 20 := ⟨_, _, Try.func20, rfl, by decide⟩
instance : TFunc Try.prog 21 := ⟨_, _, Try.func21, rfl, by decide⟩
instance : TFunc Try.prog 22 := ⟨_, _, Try.func22, rfl, by decide⟩
instance : TFunc Try.prog 23 := ⟨_, _, Try.func23, rfl, by decide⟩
instance : TFunc Try.prog 24 := ⟨_, _, Try.func24, rfl, by decide⟩
instance : TFunc Try.prog 25 := ⟨_, _, Try.func25, rfl, by decide⟩
instance : TFunc Try.prog 26 := ⟨_, _, Try.func26, rfl, by decide⟩
instance : TFunc Try.prog 27 := ⟨_, _, Try.func27, rfl, by decide⟩
instance : TFunc Try.prog 28 := ⟨_, _, Try.func28, rfl, by decide⟩
instance : TFunc Try.prog 29 := ⟨_, _, Try.func29, rfl, by decide⟩
instance : TFunc Try.prog 30 := ⟨_, _, Try.func30, rfl, by decide⟩
instance : TFunc Try.prog 31 := ⟨_, _, Try.func31, rfl, by decide⟩
instance : TFunc Try.prog 32 := ⟨_, _, Try.func32, rfl, by decide⟩
instance : TFunc Try.prog 33 := ⟨_, _, Try.func33, rfl, by decide⟩
instance : TFunc Try.prog 34 := ⟨_, _, Try.func34, rfl, by decide⟩
instance : TFunc Try.prog 35 := ⟨_, _, Try.func35, rfl, by decide⟩
instance : TFunc Try.prog 36 := ⟨_, _, Try.func36, rfl, by decide⟩
instance : TFunc Try.prog 37 := ⟨_, _, Try.func37, rfl, by decide⟩
instance : TFunc Try.prog 38 := ⟨_, _, Try.func38, rfl, by decide⟩
instance : TFunc Try.prog 39 := ⟨_, _, Try.func39, rfl, by decide⟩
instance : TFunc Try.prog 40 := ⟨_, _, Try.func40, rfl, by decide⟩
instance : TFunc Try.prog 41 := ⟨_, _, Try.func41, rfl, by decide⟩
instance : TFunc Try.prog 42 := ⟨_, _, Try.func42, rfl, by decide⟩
instance : TFunc Try.prog 43 := ⟨_, _, Try.func43, rfl, by decide⟩
instance : TFunc Try.prog 44 := ⟨_, _, Try.func44, rfl, by decide⟩
instance : TFunc Try.prog 45 := ⟨_, _, Try.func45, rfl, by decide⟩
instance : TFunc Try.prog 46 := ⟨_, _, Try.func46, rfl, by decide⟩
instance : TFunc Try.prog 47 := ⟨_, _, Try.func47, rfl, by decide⟩
instance : TFunc Try.prog 48 := ⟨_, _, Try.func48, rfl, by decide⟩
instance : TFunc Try.prog 49 := ⟨_, _, Try.func49, rfl, by decide⟩
instance : TFunc Try.prog 50 := ⟨_, _, Try.func50, rfl, by decide⟩
instance : TFunc Try.prog 51 := ⟨_, _, Try.func51, rfl, by decide⟩
instance : TFunc Try.prog 52 := ⟨_, _, Try.func52, rfl, by decide⟩
instance : TFunc Try.prog 53 := ⟨_, _, Try.func53, rfl, by decide⟩
instance : TFunc Try.prog 54 := ⟨_, _, Try.func54, rfl, by decide⟩
instance : TFunc Try.prog 55 := ⟨_, _, Try.func55, rfl, by decide⟩
instance : TFunc Try.prog 56 := ⟨_, _, Try.func56, rfl, by decide⟩
instance : TFunc Try.prog 57 := ⟨_, _, Try.func57, rfl, by decide⟩
instance : TFunc Try.prog 58 := ⟨_, _, Try.func58, rfl, by decide⟩
instance : TFunc Try.prog 59 := ⟨_, _, Try.func59, rfl, by decide⟩
instance : TFunc Try.prog 60 := ⟨_, _, Try.func60, rfl, by decide⟩
instance : TFunc Try.prog 61 := ⟨_, _, Try.func61, rfl, by decide⟩
instance : TFunc Try.prog 62 := ⟨_, _, Try.func62, rfl, by decide⟩
instance : TFunc Try.prog 63 := ⟨_, _, Try.func63, rfl, by decide⟩
instance : TFunc Try.prog 64 := ⟨_, _, Try.func64, rfl, by decide⟩
instance : TFunc Try.prog 65 := ⟨_, _, Try.func65, rfl, by decide⟩
instance : TFunc Try.prog 66 := ⟨_, _, Try.func66, rfl, by decide⟩
instance : TFunc Try.prog 67 := ⟨_, _, Try.func67, rfl, by decide⟩
instance : TFunc Try.prog 68 := ⟨_, _, Try.func68, rfl, by decide⟩
instance : TFunc Try.prog 69 := ⟨_, _, Try.func69, rfl, by decide⟩
instance : TFunc Try.prog 70 := ⟨_, _, Try.func70, rfl, by decide⟩
instance : TFunc Try.prog 71 := ⟨_, _, Try.func71, rfl, by decide⟩
instance : TFunc Try.prog 72 := ⟨_, _, Try.func72, rfl, by decide⟩
instance : TFunc Try.prog 73 := ⟨_, _, Try.func73, rfl, by decide⟩
instance : TFunc Try.prog 74 := ⟨_, _, Try.func74, rfl, by decide⟩
instance : TFunc Try.prog 75 := ⟨_, _, Try.func75, rfl, by decide⟩
instance : TFunc Try.prog 76 := ⟨_, _, Try.func76, rfl, by decide⟩
instance : TFunc Try.prog 77 := ⟨_, _, Try.func77, rfl, by decide⟩
instance : TFunc Try.prog 78 := ⟨_, _, Try.func78, rfl, by decide⟩
instance : TFunc Try.prog 79 := ⟨_, _, Try.func79, rfl, by decide⟩
instance : TFunc Try.prog 80 := ⟨_, _, Try.func80, rfl, by decide⟩
instance : TFunc Try.prog 81 := ⟨_, _, Try.func81, rfl, by decide⟩
instance : TFunc Try.prog 82 := ⟨_, _, Try.func82, rfl, by decide⟩
instance : TFunc Try.prog 83 := ⟨_, _, Try.func83, rfl, by decide⟩
instance : TFunc Try.prog 84 := ⟨_, _, Try.func84, rfl, by decide⟩
instance : TFunc Try.prog 85 := ⟨_, _, Try.func85, rfl, by decide⟩
instance : TFunc Try.prog 86 := ⟨_, _, Try.func86, rfl, by decide⟩
instance : TFunc Try.prog 87 := ⟨_, _, Try.func87, rfl, by decide⟩
instance : TFunc Try.prog 88 := ⟨_, _, Try.func88, rfl, by decide⟩
instance : TFunc Try.prog 89 := ⟨_, _, Try.func89, rfl, by decide⟩
instance : TFunc Try.prog 90 := ⟨_, _, Try.func90, rfl, by decide⟩
instance : TFunc Try.prog 91 := ⟨_, _, Try.func91, rfl, by decide⟩
instance : TFunc Try.prog 92 := ⟨_, _, Try.func92, rfl, by decide⟩
instance : TFunc Try.prog 93 := ⟨_, _, Try.func93, rfl, by decide⟩
instance : TFunc Try.prog 94 := ⟨_, _, Try.func94, rfl, by decide⟩
instance : TFunc Try.prog 95 := ⟨_, _, Try.func95, rfl, by decide⟩
instance : TFunc Try.prog 96 := ⟨_, _, Try.func96, rfl, by decide⟩
instance : TFunc Try.prog 97 := ⟨_, _, Try.func97, rfl, by decide⟩
instance : TFunc Try.prog 98 := ⟨_, _, Try.func98, rfl, by decide⟩
instance : TFunc Try.prog 99 := ⟨_, _, Try.func99, rfl, by decide⟩
instance : TFunc Try.prog 100 := ⟨_, _, Try.func100, rfl, by decide⟩
instance : TFunc Try.prog 101 := ⟨_, _, Try.func101, rfl, by decide⟩
instance : TFunc Try.prog 102 := ⟨_, _, Try.func102, rfl, by decide⟩
instance : TFunc Try.prog 103 := ⟨_, _, Try.func103, rfl, by decide⟩
instance : TFunc Try.prog 124 := ⟨_, _, Try.func124, rfl, by decide⟩
instance : TFunc Try.prog 125 := ⟨_, _, Try.func125, rfl, by decide⟩
instance : TFunc Try.prog 126 := ⟨_, _, Try.func126, rfl, by decide⟩
theorem mixed : Try.prog.follows .mixedOrders = true := by kernel_rfl
end Go.Proofs.Ytkpgcdhepfgfaaa.L
