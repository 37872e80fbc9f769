/-
  Facts on the program's types and functions, by program. Own work.
-/
import Derived.Test.YtkpgcdhepfgfaaaGreatMap
import Derived.Test.YtkpgcdhepfgfaaaGreatChecked
import Derived.KernelRfl
set_option linter.unusedSimpArgs false
set_option linter.unusedVariables false
namespace Go.Proofs.YtkpgcdhepfgfaaaGreat.L
open Go.L
theorem info_of {P : Program} {t : TypeId} {z : Value} {s b : Nat} (h : (P.info? t).map (fun i => (i.zero, i.size, i.bytes)) = some (some z, s, b)) : ∃ i, P.info? t = some i ∧ i.zero = some z ∧ i.size = s ∧ i.bytes = b := by
  cases hi : P.info? t with
  | none => rw [hi] at h; cases h
  | some i => rw [hi] at h; simp only [Option.map_some, Option.some.injEq, Prod.mk.injEq] at h; exact ⟨i, rfl, h.1, h.2.1, h.2.2⟩
theorem inf1 : (Tryz.prog.info? 1).map (fun i => (i.zero, i.size, i.bytes)) = some (some .nilFunc, 1, 8) := by kernel_rfl
theorem inf2 : (Tryz.prog.info? 2).map (fun i => (i.zero, i.size, i.bytes)) = some (some (.int .i64 0), 1, 8) := by kernel_rfl
theorem inf3 : (Tryz.prog.info? 3).map (fun i => (i.zero, i.size, i.bytes)) = some (some (.int .i64 0), 1, 8) := by kernel_rfl
theorem inf4 : (Tryz.prog.info? 4).map (fun i => (i.zero, i.size, i.bytes)) = some (some (.bool false), 1, 1) := by kernel_rfl
theorem inf5 : (Tryz.prog.info? 5).map (fun i => (i.zero, i.size, i.bytes)) = some (some (.int .u8 0), 1, 1) := by kernel_rfl
theorem inf7 : (Tryz.prog.info? 7).map (fun i => (i.zero, i.size, i.bytes)) = some (some (.agg #[(.int .i64 0), (.int .i64 0), (.bool false), (.int .u8 0)]), 4, 24) := by kernel_rfl
theorem inf9 : (Tryz.prog.info? 9).map (fun i => (i.zero, i.size, i.bytes)) = some (some (.string ByteArray.empty), 1, 16) := by kernel_rfl
theorem inf12 : (Tryz.prog.info? 12).map (fun i => (i.zero, i.size, i.bytes)) = some (some (.int .u64 0), 1, 8) := by kernel_rfl
theorem inf13 : (Tryz.prog.info? 13).map (fun i => (i.zero, i.size, i.bytes)) = some (some (.agg #[(.string ByteArray.empty), (.int .u64 0)]), 2, 24) := by kernel_rfl
theorem inf18 : (Tryz.prog.info? 18).map (fun i => (i.zero, i.size, i.bytes)) = some (some (.agg #[(.pointer none)]), 1, 8) := by kernel_rfl
theorem inf20 : (Tryz.prog.info? 20).map (fun i => (i.zero, i.size, i.bytes)) = some (some .nilIface, 1, 16) := by kernel_rfl
theorem inf21 : (Tryz.prog.info? 21).map (fun i => (i.zero, i.size, i.bytes)) = some (some (.int .i32 0), 1, 4) := by kernel_rfl
theorem inf22 : (Tryz.prog.info? 22).map (fun i => (i.zero, i.size, i.bytes)) = some (some (.slice none 0 0), 1, 24) := by kernel_rfl
theorem inf23 : (Tryz.prog.info? 23).map (fun i => (i.zero, i.size, i.bytes)) = some (some .nilFunc, 1, 8) := by kernel_rfl
theorem inf24 : (Tryz.prog.info? 24).map (fun i => (i.zero, i.size, i.bytes)) = some (some (.agg #[(.int .i64 0), (.int .i64 0), (.int .i64 0)]), 3, 24) := by kernel_rfl
theorem inf25 : (Tryz.prog.info? 25).map (fun i => (i.zero, i.size, i.bytes)) = some (some (.agg #[(.int .i64 0), (.int .i64 0), (.int .i64 0)]), 3, 24) := by kernel_rfl
theorem inf26 : (Tryz.prog.info? 26).map (fun i => (i.zero, i.size, i.bytes)) = some (some .nilFunc, 1, 8) := by kernel_rfl
theorem inf27 : (Tryz.prog.info? 27).map (fun i => (i.zero, i.size, i.bytes)) = some (some (.pointer none), 1, 8) := by kernel_rfl
theorem inf28 : (Tryz.prog.info? 28).map (fun i => (i.zero, i.size, i.bytes)) = some (some .nilFunc, 1, 8) := by kernel_rfl
theorem inf29 : (Tryz.prog.info? 29).map (fun i => (i.zero, i.size, i.bytes)) = some (some (.pointer none), 1, 8) := by kernel_rfl
theorem inf30 : (Tryz.prog.info? 30).map (fun i => (i.zero, i.size, i.bytes)) = some (some (.int .i64 0), 1, 8) := by kernel_rfl
theorem inf32 : (Tryz.prog.info? 32).map (fun i => (i.zero, i.size, i.bytes)) = some (some .nilFunc, 1, 8) := by kernel_rfl
theorem inf33 : (Tryz.prog.info? 33).map (fun i => (i.zero, i.size, i.bytes)) = some (some .nilFunc, 1, 8) := by kernel_rfl
theorem inf34 : (Tryz.prog.info? 34).map (fun i => (i.zero, i.size, i.bytes)) = some (some (.pointer none), 1, 8) := by kernel_rfl
theorem inf35 : (Tryz.prog.info? 35).map (fun i => (i.zero, i.size, i.bytes)) = some (some .nilFunc, 1, 8) := by kernel_rfl
theorem inf36 : (Tryz.prog.info? 36).map (fun i => (i.zero, i.size, i.bytes)) = some (some .nilFunc, 1, 8) := by kernel_rfl
theorem inf37 : (Tryz.prog.info? 37).map (fun i => (i.zero, i.size, i.bytes)) = some (some (.slice none 0 0), 1, 24) := by kernel_rfl
theorem inf38 : (Tryz.prog.info? 38).map (fun i => (i.zero, i.size, i.bytes)) = some (some (.slice none 0 0), 1, 24) := by kernel_rfl
theorem inf39 : (Tryz.prog.info? 39).map (fun i => (i.zero, i.size, i.bytes)) = some (some (.int .u64 0), 1, 8) := by kernel_rfl
theorem inf40 : (Tryz.prog.info? 40).map (fun i => (i.zero, i.size, i.bytes)) = some (some (.agg #[(.int .u8 0), (.int .u8 0), (.int .u64 0)]), 3, 16) := by kernel_rfl
theorem inf41 : (Tryz.prog.info? 41).map (fun i => (i.zero, i.size, i.bytes)) = some (some (.agg #[(.int .u8 0), (.int .u8 0), (.int .u64 0)]), 3, 16) := by kernel_rfl
theorem inf42 : (Tryz.prog.info? 42).map (fun i => (i.zero, i.size, i.bytes)) = some (some (.pointer none), 1, 8) := by kernel_rfl
theorem inf43 : (Tryz.prog.info? 43).map (fun i => (i.zero, i.size, i.bytes)) = some (some .nilIface, 1, 16) := by kernel_rfl
theorem inf44 : (Tryz.prog.info? 44).map (fun i => (i.zero, i.size, i.bytes)) = some (some .nilIface, 1, 16) := by kernel_rfl
theorem inf45 : (Tryz.prog.info? 45).map (fun i => (i.zero, i.size, i.bytes)) = some (some (.agg #[.nilIface, .nilFunc, (.int .i64 0), (.int .u64 0)]), 4, 40) := by kernel_rfl
theorem inf46 : (Tryz.prog.info? 46).map (fun i => (i.zero, i.size, i.bytes)) = some (some (.agg #[.nilIface, .nilFunc, (.int .i64 0), (.int .u64 0)]), 4, 40) := by kernel_rfl
theorem inf47 : (Tryz.prog.info? 47).map (fun i => (i.zero, i.size, i.bytes)) = some (some (.agg #[.nilIface, .nilFunc, (.int .i64 0), (.int .u64 0), (.pointer none)]), 5, 48) := by kernel_rfl
theorem inf48 : (Tryz.prog.info? 48).map (fun i => (i.zero, i.size, i.bytes)) = some (some (.agg #[.nilIface, .nilFunc, (.int .i64 0), (.int .u64 0), (.pointer none)]), 5, 48) := by kernel_rfl
theorem inf49 : (Tryz.prog.info? 49).map (fun i => (i.zero, i.size, i.bytes)) = some (some .nilFunc, 1, 8) := by kernel_rfl
theorem inf50 : (Tryz.prog.info? 50).map (fun i => (i.zero, i.size, i.bytes)) = some (some (.slice none 0 0), 1, 24) := by kernel_rfl
theorem inf51 : (Tryz.prog.info? 51).map (fun i => (i.zero, i.size, i.bytes)) = some (some (.agg #[(.int .i64 0), (.int .u64 0), (.slice none 0 0)]), 3, 40) := by kernel_rfl
theorem inf52 : (Tryz.prog.info? 52).map (fun i => (i.zero, i.size, i.bytes)) = some (some (.agg #[(.int .i64 0), (.int .u64 0), (.slice none 0 0)]), 3, 40) := by kernel_rfl
theorem inf53 : (Tryz.prog.info? 53).map (fun i => (i.zero, i.size, i.bytes)) = some (some .nilFunc, 1, 8) := by kernel_rfl
theorem inf54 : (Tryz.prog.info? 54).map (fun i => (i.zero, i.size, i.bytes)) = some (some .nilFunc, 1, 8) := by kernel_rfl
theorem inf55 : (Tryz.prog.info? 55).map (fun i => (i.zero, i.size, i.bytes)) = some (some (.agg #[(.bool false), (.int .i64 0), (.int .i64 0), (.int .u64 0), (.int .u64 0), (.int .i64 0), (.int .u64 0), (.int .u64 0)]), 8, 64) := by kernel_rfl
theorem inf56 : (Tryz.prog.info? 56).map (fun i => (i.zero, i.size, i.bytes)) = some (some (.agg #[(.bool false), (.int .i64 0), (.int .i64 0), (.int .u64 0), (.int .u64 0), (.int .i64 0), (.int .u64 0), (.int .u64 0)]), 8, 64) := by kernel_rfl
theorem inf57 : (Tryz.prog.info? 57).map (fun i => (i.zero, i.size, i.bytes)) = some (some .nilFunc, 1, 8) := by kernel_rfl
theorem inf58 : (Tryz.prog.info? 58).map (fun i => (i.zero, i.size, i.bytes)) = some (some .nilFunc, 1, 8) := by kernel_rfl
theorem inf59 : (Tryz.prog.info? 59).map (fun i => (i.zero, i.size, i.bytes)) = some (some .nilFunc, 1, 8) := by kernel_rfl
theorem inf60 : (Tryz.prog.info? 60).map (fun i => (i.zero, i.size, i.bytes)) = some (some (.agg #[(.slice none 0 0), (.int .i64 0)]), 2, 32) := by kernel_rfl
theorem inf61 : (Tryz.prog.info? 61).map (fun i => (i.zero, i.size, i.bytes)) = some (some (.agg #[(.slice none 0 0), (.int .i64 0)]), 2, 32) := by kernel_rfl
theorem inf62 : (Tryz.prog.info? 62).map (fun i => (i.zero, i.size, i.bytes)) = some (some .nilFunc, 1, 8) := by kernel_rfl
theorem inf64 : (Tryz.prog.info? 64).map (fun i => (i.zero, i.size, i.bytes)) = some (some .nilFunc, 1, 8) := by kernel_rfl
theorem inf65 : (Tryz.prog.info? 65).map (fun i => (i.zero, i.size, i.bytes)) = some (some .nilFunc, 1, 8) := by kernel_rfl
theorem inf66 : (Tryz.prog.info? 66).map (fun i => (i.zero, i.size, i.bytes)) = some (some .nilFunc, 1, 8) := by kernel_rfl
theorem inf67 : (Tryz.prog.info? 67).map (fun i => (i.zero, i.size, i.bytes)) = some (some .nilFunc, 1, 8) := by kernel_rfl
theorem inf68 : (Tryz.prog.info? 68).map (fun i => (i.zero, i.size, i.bytes)) = some (some (.agg #[(.slice none 0 0), (.int .i64 0)]), 2, 32) := by kernel_rfl
theorem inf69 : (Tryz.prog.info? 69).map (fun i => (i.zero, i.size, i.bytes)) = some (some (.agg #[(.slice none 0 0), (.int .i64 0)]), 2, 32) := by kernel_rfl
theorem inf70 : (Tryz.prog.info? 70).map (fun i => (i.zero, i.size, i.bytes)) = some (some .nilFunc, 1, 8) := by kernel_rfl
theorem inf71 : (Tryz.prog.info? 71).map (fun i => (i.zero, i.size, i.bytes)) = some (some (.pointer none), 1, 8) := by kernel_rfl
theorem inf72 : (Tryz.prog.info? 72).map (fun i => (i.zero, i.size, i.bytes)) = some (some (.agg #[(.pointer none), (.int .i64 0), (.pointer none), (.pointer none)]), 4, 32) := by kernel_rfl
theorem inf73 : (Tryz.prog.info? 73).map (fun i => (i.zero, i.size, i.bytes)) = some (some (.agg #[(.pointer none), (.int .i64 0), (.pointer none), (.pointer none)]), 4, 32) := by kernel_rfl
theorem inf75 : (Tryz.prog.info? 75).map (fun i => (i.zero, i.size, i.bytes)) = some (some .nilFunc, 1, 8) := by kernel_rfl
theorem inf76 : (Tryz.prog.info? 76).map (fun i => (i.zero, i.size, i.bytes)) = some (some .nilFunc, 1, 8) := by kernel_rfl
theorem inf77 : (Tryz.prog.info? 77).map (fun i => (i.zero, i.size, i.bytes)) = some (some .nilFunc, 1, 8) := by kernel_rfl
theorem inf78 : (Tryz.prog.info? 78).map (fun i => (i.zero, i.size, i.bytes)) = some (some (.agg #[(.int .i64 0), (.int .i64 0)]), 2, 16) := by kernel_rfl
theorem inf79 : (Tryz.prog.info? 79).map (fun i => (i.zero, i.size, i.bytes)) = some (some (.agg #[(.int .i64 0), (.int .i64 0)]), 2, 16) := by kernel_rfl
theorem inf80 : (Tryz.prog.info? 80).map (fun i => (i.zero, i.size, i.bytes)) = some (some .nilFunc, 1, 8) := by kernel_rfl
theorem inf81 : (Tryz.prog.info? 81).map (fun i => (i.zero, i.size, i.bytes)) = some (some (.pointer none), 1, 8) := by kernel_rfl
theorem inf82 : (Tryz.prog.info? 82).map (fun i => (i.zero, i.size, i.bytes)) = some (some .nilFunc, 1, 8) := by kernel_rfl
theorem inf83 : (Tryz.prog.info? 83).map (fun i => (i.zero, i.size, i.bytes)) = some (some .nilFunc, 1, 8) := by kernel_rfl
theorem inf84 : (Tryz.prog.info? 84).map (fun i => (i.zero, i.size, i.bytes)) = some (some .nilFunc, 1, 8) := by kernel_rfl
theorem inf85 : (Tryz.prog.info? 85).map (fun i => (i.zero, i.size, i.bytes)) = some (some .nilFunc, 1, 8) := by kernel_rfl
theorem inf86 : (Tryz.prog.info? 86).map (fun i => (i.zero, i.size, i.bytes)) = some (some .nilFunc, 1, 8) := by kernel_rfl
theorem inf87 : (Tryz.prog.info? 87).map (fun i => (i.zero, i.size, i.bytes)) = some (some .nilFunc, 1, 8) := by kernel_rfl
theorem inf89 : (Tryz.prog.info? 89).map (fun i => (i.zero, i.size, i.bytes)) = some (some .nilFunc, 1, 8) := by kernel_rfl
theorem inf90 : (Tryz.prog.info? 90).map (fun i => (i.zero, i.size, i.bytes)) = some (some .nilFunc, 1, 8) := by kernel_rfl
theorem inf91 : (Tryz.prog.info? 91).map (fun i => (i.zero, i.size, i.bytes)) = some (some .nilFunc, 1, 8) := by kernel_rfl
theorem inf92 : (Tryz.prog.info? 92).map (fun i => (i.zero, i.size, i.bytes)) = some (some .nilFunc, 1, 8) := by kernel_rfl
theorem inf93 : (Tryz.prog.info? 93).map (fun i => (i.zero, i.size, i.bytes)) = some (some (.pointer none), 1, 8) := by kernel_rfl
theorem inf94 : (Tryz.prog.info? 94).map (fun i => (i.zero, i.size, i.bytes)) = some (some .nilFunc, 1, 8) := by kernel_rfl
theorem inf95 : (Tryz.prog.info? 95).map (fun i => (i.zero, i.size, i.bytes)) = some (some (.slice none 0 0), 1, 24) := by kernel_rfl
theorem inf96 : (Tryz.prog.info? 96).map (fun i => (i.zero, i.size, i.bytes)) = some (some .nilFunc, 1, 8) := by kernel_rfl
theorem inf97 : (Tryz.prog.info? 97).map (fun i => (i.zero, i.size, i.bytes)) = some (some (.pointer none), 1, 8) := by kernel_rfl
theorem inf98 : (Tryz.prog.info? 98).map (fun i => (i.zero, i.size, i.bytes)) = some (some .nilFunc, 1, 8) := by kernel_rfl
theorem inf99 : (Tryz.prog.info? 99).map (fun i => (i.zero, i.size, i.bytes)) = some (some .nilFunc, 1, 8) := by kernel_rfl
theorem inf100 : (Tryz.prog.info? 100).map (fun i => (i.zero, i.size, i.bytes)) = some (some .nilFunc, 1, 8) := by kernel_rfl
theorem inf101 : (Tryz.prog.info? 101).map (fun i => (i.zero, i.size, i.bytes)) = some (some (.agg #[.nilFunc, (.bool false), (.int .u64 0), (.bool false)]), 4, 32) := by kernel_rfl
theorem inf102 : (Tryz.prog.info? 102).map (fun i => (i.zero, i.size, i.bytes)) = some (some (.agg #[.nilFunc, (.bool false), (.int .u64 0), (.bool false)]), 4, 32) := by kernel_rfl
theorem inf103 : (Tryz.prog.info? 103).map (fun i => (i.zero, i.size, i.bytes)) = some (some .nilFunc, 1, 8) := by kernel_rfl
theorem inf104 : (Tryz.prog.info? 104).map (fun i => (i.zero, i.size, i.bytes)) = some (some (.pointer none), 1, 8) := by kernel_rfl
theorem inf106 : (Tryz.prog.info? 106).map (fun i => (i.zero, i.size, i.bytes)) = some (some .nilFunc, 1, 8) := by kernel_rfl
theorem inf107 : (Tryz.prog.info? 107).map (fun i => (i.zero, i.size, i.bytes)) = some (some (.agg #[(.pointer none), (.int .i64 0), (.int .u64 0)]), 3, 24) := by kernel_rfl
theorem inf108 : (Tryz.prog.info? 108).map (fun i => (i.zero, i.size, i.bytes)) = some (some (.agg #[(.pointer none), (.int .i64 0), (.int .u64 0)]), 3, 24) := by kernel_rfl
theorem inf109 : (Tryz.prog.info? 109).map (fun i => (i.zero, i.size, i.bytes)) = some (some .nilFunc, 1, 8) := by kernel_rfl
theorem inf110 : (Tryz.prog.info? 110).map (fun i => (i.zero, i.size, i.bytes)) = some (some .nilFunc, 1, 8) := by kernel_rfl
theorem inf111 : (Tryz.prog.info? 111).map (fun i => (i.zero, i.size, i.bytes)) = some (some .nilFunc, 1, 8) := by kernel_rfl
theorem inf112 : (Tryz.prog.info? 112).map (fun i => (i.zero, i.size, i.bytes)) = some (some .nilFunc, 1, 8) := by kernel_rfl
theorem inf113 : (Tryz.prog.info? 113).map (fun i => (i.zero, i.size, i.bytes)) = some (some .nilFunc, 1, 8) := by kernel_rfl
theorem inf114 : (Tryz.prog.info? 114).map (fun i => (i.zero, i.size, i.bytes)) = some (some .nilFunc, 1, 8) := by kernel_rfl
theorem inf115 : (Tryz.prog.info? 115).map (fun i => (i.zero, i.size, i.bytes)) = some (some .nilFunc, 1, 8) := by kernel_rfl
theorem inf116 : (Tryz.prog.info? 116).map (fun i => (i.zero, i.size, i.bytes)) = some (some .nilFunc, 1, 8) := by kernel_rfl
theorem inf117 : (Tryz.prog.info? 117).map (fun i => (i.zero, i.size, i.bytes)) = some (some .nilFunc, 1, 8) := by kernel_rfl
theorem inf119 : (Tryz.prog.info? 119).map (fun i => (i.zero, i.size, i.bytes)) = some (some .nilFunc, 1, 8) := by kernel_rfl
theorem inf121 : (Tryz.prog.info? 121).map (fun i => (i.zero, i.size, i.bytes)) = some (some .nilFunc, 1, 8) := by kernel_rfl
theorem inf122 : (Tryz.prog.info? 122).map (fun i => (i.zero, i.size, i.bytes)) = some (some .nilFunc, 1, 8) := by kernel_rfl
theorem inf123 : (Tryz.prog.info? 123).map (fun i => (i.zero, i.size, i.bytes)) = some (some .nilFunc, 1, 8) := by kernel_rfl
theorem inf124 : (Tryz.prog.info? 124).map (fun i => (i.zero, i.size, i.bytes)) = some (some .nilFunc, 1, 8) := by kernel_rfl
theorem inf125 : (Tryz.prog.info? 125).map (fun i => (i.zero, i.size, i.bytes)) = some (some (.agg #[(.pointer none), .nilFunc, (.int .i64 0), (.int .u64 0), (.int .u64 0), (.int .u64 0)]), 6, 48) := by kernel_rfl
theorem inf126 : (Tryz.prog.info? 126).map (fun i => (i.zero, i.size, i.bytes)) = some (some (.agg #[(.pointer none), .nilFunc, (.int .i64 0), (.int .u64 0), (.int .u64 0), (.int .u64 0)]), 6, 48) := by kernel_rfl
theorem inf127 : (Tryz.prog.info? 127).map (fun i => (i.zero, i.size, i.bytes)) = some (some .nilFunc, 1, 8) := by kernel_rfl
theorem inf128 : (Tryz.prog.info? 128).map (fun i => (i.zero, i.size, i.bytes)) = some (some (.agg #[(.pointer none), (.pointer none), (.pointer none), (.string ByteArray.empty)]), 4, 40) := by kernel_rfl
theorem inf130 : (Tryz.prog.info? 130).map (fun i => (i.zero, i.size, i.bytes)) = some (some (.agg #[]), 0, 0) := by kernel_rfl
theorem inf131 : (Tryz.prog.info? 131).map (fun i => (i.zero, i.size, i.bytes)) = some (some (.agg #[]), 0, 0) := by kernel_rfl
theorem inf133 : (Tryz.prog.info? 133).map (fun i => (i.zero, i.size, i.bytes)) = some (some (.int .u32 0), 1, 4) := by kernel_rfl
theorem inf136 : (Tryz.prog.info? 136).map (fun i => (i.zero, i.size, i.bytes)) = some (some .nilFunc, 1, 8) := by kernel_rfl
theorem inf137 : (Tryz.prog.info? 137).map (fun i => (i.zero, i.size, i.bytes)) = some (some (.pointer none), 1, 8) := by kernel_rfl
theorem inf140 : (Tryz.prog.info? 140).map (fun i => (i.zero, i.size, i.bytes)) = some (some (.agg #[(.int .u64 0), (.int .u64 0), (.int .u32 0), (.int .u8 0), (.int .u8 0), (.int .u8 0), (.int .u8 0), .nilFunc, (.pointer none), (.int .i32 0), (.int .i32 0)]), 11, 48) := by kernel_rfl
theorem inf142 : (Tryz.prog.info? 142).map (fun i => (i.zero, i.size, i.bytes)) = some (some .nilFunc, 1, 8) := by kernel_rfl
theorem inf143 : (Tryz.prog.info? 143).map (fun i => (i.zero, i.size, i.bytes)) = some (some (.pointer none), 1, 8) := by kernel_rfl
instance : TZeroC Tryz.prog 1 [.nilFunc] := ⟨let ⟨i, a, b, _, _⟩ := info_of inf1; ⟨i, _, a, b, rfl⟩⟩
instance : TCell Tryz.prog 1 := ⟨⟨_, Tryz.underlying1, rfl⟩, let ⟨i, a, _, c, _⟩ := info_of inf1; ⟨i, a, c⟩⟩
instance : TZeroC Tryz.prog 2 [(.int .i64 0)] := ⟨let ⟨i, a, b, _, _⟩ := info_of inf2; ⟨i, _, a, b, rfl⟩⟩
instance : TCell Tryz.prog 2 := ⟨⟨_, Tryz.underlying2, rfl⟩, let ⟨i, a, _, c, _⟩ := info_of inf2; ⟨i, a, c⟩⟩
instance : TInt Tryz.prog 2 .i64 := ⟨Tryz.underlying2⟩
instance : TZeroC Tryz.prog 3 [(.int .i64 0)] := ⟨let ⟨i, a, b, _, _⟩ := info_of inf3; ⟨i, _, a, b, rfl⟩⟩
instance : TCell Tryz.prog 3 := ⟨⟨_, Tryz.underlying3, rfl⟩, let ⟨i, a, _, c, _⟩ := info_of inf3; ⟨i, a, c⟩⟩
instance : TInt Tryz.prog 3 .i64 := ⟨Tryz.underlying3⟩
instance : TZeroC Tryz.prog 4 [(.bool false)] := ⟨let ⟨i, a, b, _, _⟩ := info_of inf4; ⟨i, _, a, b, rfl⟩⟩
instance : TCell Tryz.prog 4 := ⟨⟨_, Tryz.underlying4, rfl⟩, let ⟨i, a, _, c, _⟩ := info_of inf4; ⟨i, a, c⟩⟩
instance : TBool Tryz.prog 4 := ⟨Tryz.underlying4⟩
instance : TZeroC Tryz.prog 5 [(.int .u8 0)] := ⟨let ⟨i, a, b, _, _⟩ := info_of inf5; ⟨i, _, a, b, rfl⟩⟩
instance : TCell Tryz.prog 5 := ⟨⟨_, Tryz.underlying5, rfl⟩, let ⟨i, a, _, c, _⟩ := info_of inf5; ⟨i, a, c⟩⟩
instance : TInt Tryz.prog 5 .u8 := ⟨Tryz.underlying5⟩
instance : TZeroC Tryz.prog 7 [(.int .i64 0), (.int .i64 0), (.bool false), (.int .u8 0)] := ⟨let ⟨i, a, b, _, _⟩ := info_of inf7; ⟨i, _, a, b, rfl⟩⟩
instance : TAgg Tryz.prog 7 4 := ⟨⟨_, Tryz.underlying7, rfl⟩, let ⟨i, a, _, c, _⟩ := info_of inf7; ⟨i, a, c⟩⟩
instance : TFld Tryz.prog 7 0 0 := ⟨let ⟨i, a, _, c, _⟩ := info_of inf2; ⟨_, _, i, Tryz.underlying7, rfl, rfl, a, by rw [c]; decide⟩⟩
instance : TFld Tryz.prog 7 1 1 := ⟨let ⟨i, a, _, c, _⟩ := info_of inf3; ⟨_, _, i, Tryz.underlying7, rfl, rfl, a, by rw [c]; decide⟩⟩
instance : TFld Tryz.prog 7 2 2 := ⟨let ⟨i, a, _, c, _⟩ := info_of inf4; ⟨_, _, i, Tryz.underlying7, rfl, rfl, a, by rw [c]; decide⟩⟩
instance : TFldV Tryz.prog 7 0 0 := ⟨⟨_, _, _, Tryz.underlying7, rfl, rfl, Tryz.underlying2, rfl⟩⟩
instance : TFldV Tryz.prog 7 1 1 := ⟨⟨_, _, _, Tryz.underlying7, rfl, rfl, Tryz.underlying3, rfl⟩⟩
instance : TFldV Tryz.prog 7 2 2 := ⟨⟨_, _, _, Tryz.underlying7, rfl, rfl, Tryz.underlying4, rfl⟩⟩
instance : TZeroC Tryz.prog 9 [(.string ByteArray.empty)] := ⟨let ⟨i, a, b, _, _⟩ := info_of inf9; ⟨i, _, a, b, rfl⟩⟩
instance : TCell Tryz.prog 9 := ⟨⟨_, Tryz.underlying9, rfl⟩, let ⟨i, a, _, c, _⟩ := info_of inf9; ⟨i, a, c⟩⟩
instance : TStr Tryz.prog 9 := ⟨Tryz.underlying9⟩
instance : TZeroC Tryz.prog 12 [(.int .u64 0)] := ⟨let ⟨i, a, b, _, _⟩ := info_of inf12; ⟨i, _, a, b, rfl⟩⟩
instance : TCell Tryz.prog 12 := ⟨⟨_, Tryz.underlying12, rfl⟩, let ⟨i, a, _, c, _⟩ := info_of inf12; ⟨i, a, c⟩⟩
instance : TInt Tryz.prog 12 .u64 := ⟨Tryz.underlying12⟩
instance : TZeroC Tryz.prog 13 [(.string ByteArray.empty), (.int .u64 0)] := ⟨let ⟨i, a, b, _, _⟩ := info_of inf13; ⟨i, _, a, b, rfl⟩⟩
instance : TAgg Tryz.prog 13 2 := ⟨⟨_, Tryz.underlying13, rfl⟩, let ⟨i, a, _, c, _⟩ := info_of inf13; ⟨i, a, c⟩⟩
instance : TFld Tryz.prog 13 0 0 := ⟨let ⟨i, a, _, c, _⟩ := info_of inf9; ⟨_, _, i, Tryz.underlying13, rfl, rfl, a, by rw [c]; decide⟩⟩
instance : TFld Tryz.prog 13 1 1 := ⟨let ⟨i, a, _, c, _⟩ := info_of inf12; ⟨_, _, i, Tryz.underlying13, rfl, rfl, a, by rw [c]; decide⟩⟩
instance : TFldV Tryz.prog 13 0 0 := ⟨⟨_, _, _, Tryz.underlying13, rfl, rfl, Tryz.underlying9, rfl⟩⟩
instance : TFldV Tryz.prog 13 1 1 := ⟨⟨_, _, _, Tryz.underlying13, rfl, rfl, Tryz.underlying12, rfl⟩⟩
instance : TStruct Tryz.prog 13 [(0, 1), (1, 1)] [(.string ByteArray.empty), (.int .u64 0)] := ⟨let ⟨i, a, b, _, _⟩ := info_of inf13; ⟨i, _, _, a, b, rfl, Tryz.underlying13, by kernel_rfl⟩⟩
instance : TZeroC Tryz.prog 18 [(.pointer none)] := ⟨let ⟨i, a, b, _, _⟩ := info_of inf18; ⟨i, _, a, b, rfl⟩⟩
instance : TAgg Tryz.prog 18 1 := ⟨⟨_, Tryz.underlying18, rfl⟩, let ⟨i, a, _, c, _⟩ := info_of inf18; ⟨i, a, c⟩⟩
instance : TZeroC Tryz.prog 20 [.nilIface] := ⟨let ⟨i, a, b, _, _⟩ := info_of inf20; ⟨i, _, a, b, rfl⟩⟩
instance : TCell Tryz.prog 20 := ⟨⟨_, Tryz.underlying20, rfl⟩, let ⟨i, a, _, c, _⟩ := info_of inf20; ⟨i, a, c⟩⟩
instance : TZeroC Tryz.prog 21 [(.int .i32 0)] := ⟨let ⟨i, a, b, _, _⟩ := info_of inf21; ⟨i, _, a, b, rfl⟩⟩
instance : TCell Tryz.prog 21 := ⟨⟨_, Tryz.underlying21, rfl⟩, let ⟨i, a, _, c, _⟩ := info_of inf21; ⟨i, a, c⟩⟩
instance : TInt Tryz.prog 21 .i32 := ⟨Tryz.underlying21⟩
instance : TZeroC Tryz.prog 22 [(.slice none 0 0)] := ⟨let ⟨i, a, b, _, _⟩ := info_of inf22; ⟨i, _, a, b, rfl⟩⟩
instance : TCell Tryz.prog 22 := ⟨⟨_, Tryz.underlying22, rfl⟩, let ⟨i, a, _, c, _⟩ := info_of inf22; ⟨i, a, c⟩⟩
instance : TSlice Tryz.prog 22 41 3 := ⟨let ⟨i, a, _, c, _⟩ := info_of inf41; ⟨i, Tryz.underlying22, a, c⟩⟩
instance : TElem Tryz.prog 22 41 3 16 [(.int .u8 0), (.int .u8 0), (.int .u64 0)] := ⟨let ⟨i, a, b, c, d⟩ := info_of inf41; ⟨i, _, Tryz.underlying22, a, c, d, b, rfl, rfl⟩⟩
instance : TZeroC Tryz.prog 23 [.nilFunc] := ⟨let ⟨i, a, b, _, _⟩ := info_of inf23; ⟨i, _, a, b, rfl⟩⟩
instance : TCell Tryz.prog 23 := ⟨⟨_, Tryz.underlying23, rfl⟩, let ⟨i, a, _, c, _⟩ := info_of inf23; ⟨i, a, c⟩⟩
instance : TZeroC Tryz.prog 24 [(.int .i64 0), (.int .i64 0), (.int .i64 0)] := ⟨let ⟨i, a, b, _, _⟩ := info_of inf24; ⟨i, _, a, b, rfl⟩⟩
instance : TAgg Tryz.prog 24 3 := ⟨⟨_, Tryz.underlying24, rfl⟩, let ⟨i, a, _, c, _⟩ := info_of inf24; ⟨i, a, c⟩⟩
instance : TFld Tryz.prog 24 0 0 := ⟨let ⟨i, a, _, c, _⟩ := info_of inf3; ⟨_, _, i, Tryz.underlying24, rfl, rfl, a, by rw [c]; decide⟩⟩
instance : TFld Tryz.prog 24 1 1 := ⟨let ⟨i, a, _, c, _⟩ := info_of inf3; ⟨_, _, i, Tryz.underlying24, rfl, rfl, a, by rw [c]; decide⟩⟩
instance : TFld Tryz.prog 24 2 2 := ⟨let ⟨i, a, _, c, _⟩ := info_of inf3; ⟨_, _, i, Tryz.underlying24, rfl, rfl, a, by rw [c]; decide⟩⟩
instance : TFldV Tryz.prog 24 0 0 := ⟨⟨_, _, _, Tryz.underlying24, rfl, rfl, Tryz.underlying3, rfl⟩⟩
instance : TFldV Tryz.prog 24 1 1 := ⟨⟨_, _, _, Tryz.underlying24, rfl, rfl, Tryz.underlying3, rfl⟩⟩
instance : TFldV Tryz.prog 24 2 2 := ⟨⟨_, _, _, Tryz.underlying24, rfl, rfl, Tryz.underlying3, rfl⟩⟩
instance : TStruct Tryz.prog 24 [(0, 1), (1, 1), (2, 1)] [(.int .i64 0), (.int .i64 0), (.int .i64 0)] := ⟨let ⟨i, a, b, _, _⟩ := info_of inf24; ⟨i, _, _, a, b, rfl, Tryz.underlying24, by kernel_rfl⟩⟩
instance : TZeroC Tryz.prog 25 [(.int .i64 0), (.int .i64 0), (.int .i64 0)] := ⟨let ⟨i, a, b, _, _⟩ := info_of inf25; ⟨i, _, a, b, rfl⟩⟩
instance : TAgg Tryz.prog 25 3 := ⟨⟨_, Tryz.underlying25, rfl⟩, let ⟨i, a, _, c, _⟩ := info_of inf25; ⟨i, a, c⟩⟩
instance : TFld Tryz.prog 25 0 0 := ⟨let ⟨i, a, _, c, _⟩ := info_of inf3; ⟨_, _, i, Tryz.underlying25, rfl, rfl, a, by rw [c]; decide⟩⟩
instance : TFld Tryz.prog 25 1 1 := ⟨let ⟨i, a, _, c, _⟩ := info_of inf3; ⟨_, _, i, Tryz.underlying25, rfl, rfl, a, by rw [c]; decide⟩⟩
instance : TFld Tryz.prog 25 2 2 := ⟨let ⟨i, a, _, c, _⟩ := info_of inf3; ⟨_, _, i, Tryz.underlying25, rfl, rfl, a, by rw [c]; decide⟩⟩
instance : TFldV Tryz.prog 25 0 0 := ⟨⟨_, _, _, Tryz.underlying25, rfl, rfl, Tryz.underlying3, rfl⟩⟩
instance : TFldV Tryz.prog 25 1 1 := ⟨⟨_, _, _, Tryz.underlying25, rfl, rfl, Tryz.underlying3, rfl⟩⟩
instance : TFldV Tryz.prog 25 2 2 := ⟨⟨_, _, _, Tryz.underlying25, rfl, rfl, Tryz.underlying3, rfl⟩⟩
instance : TFlat Tryz.prog 25 [.int .i64, .int .i64, .int .i64] := ⟨⟨_, Tryz.underlying25, by kernel_rfl⟩, by kernel_rfl, by kernel_rfl⟩
instance : TStruct Tryz.prog 25 [(0, 1), (1, 1), (2, 1)] [(.int .i64 0), (.int .i64 0), (.int .i64 0)] := ⟨let ⟨i, a, b, _, _⟩ := info_of inf25; ⟨i, _, _, a, b, rfl, Tryz.underlying25, by kernel_rfl⟩⟩
instance : TZeroC Tryz.prog 26 [.nilFunc] := ⟨let ⟨i, a, b, _, _⟩ := info_of inf26; ⟨i, _, a, b, rfl⟩⟩
instance : TCell Tryz.prog 26 := ⟨⟨_, Tryz.underlying26, rfl⟩, let ⟨i, a, _, c, _⟩ := info_of inf26; ⟨i, a, c⟩⟩
instance : TZeroC Tryz.prog 27 [(.pointer none)] := ⟨let ⟨i, a, b, _, _⟩ := info_of inf27; ⟨i, _, a, b, rfl⟩⟩
instance : TCell Tryz.prog 27 := ⟨⟨_, Tryz.underlying27, rfl⟩, let ⟨i, a, _, c, _⟩ := info_of inf27; ⟨i, a, c⟩⟩
instance : TPtr Tryz.prog 27 := ⟨_, Tryz.underlying27⟩
instance : TZeroC Tryz.prog 28 [.nilFunc] := ⟨let ⟨i, a, b, _, _⟩ := info_of inf28; ⟨i, _, a, b, rfl⟩⟩
instance : TCell Tryz.prog 28 := ⟨⟨_, Tryz.underlying28, rfl⟩, let ⟨i, a, _, c, _⟩ := info_of inf28; ⟨i, a, c⟩⟩
instance : TZeroC Tryz.prog 29 [(.pointer none)] := ⟨let ⟨i, a, b, _, _⟩ := info_of inf29; ⟨i, _, a, b, rfl⟩⟩
instance : TCell Tryz.prog 29 := ⟨⟨_, Tryz.underlying29, rfl⟩, let ⟨i, a, _, c, _⟩ := info_of inf29; ⟨i, a, c⟩⟩
instance : TPtr Tryz.prog 29 := ⟨_, Tryz.underlying29⟩
instance : TZeroC Tryz.prog 30 [(.int .i64 0)] := ⟨let ⟨i, a, b, _, _⟩ := info_of inf30; ⟨i, _, a, b, rfl⟩⟩
instance : TCell Tryz.prog 30 := ⟨⟨_, Tryz.underlying30, rfl⟩, let ⟨i, a, _, c, _⟩ := info_of inf30; ⟨i, a, c⟩⟩
instance : TInt Tryz.prog 30 .i64 := ⟨Tryz.underlying30⟩
instance : TZeroC Tryz.prog 32 [.nilFunc] := ⟨let ⟨i, a, b, _, _⟩ := info_of inf32; ⟨i, _, a, b, rfl⟩⟩
instance : TCell Tryz.prog 32 := ⟨⟨_, Tryz.underlying32, rfl⟩, let ⟨i, a, _, c, _⟩ := info_of inf32; ⟨i, a, c⟩⟩
instance : TZeroC Tryz.prog 33 [.nilFunc] := ⟨let ⟨i, a, b, _, _⟩ := info_of inf33; ⟨i, _, a, b, rfl⟩⟩
instance : TCell Tryz.prog 33 := ⟨⟨_, Tryz.underlying33, rfl⟩, let ⟨i, a, _, c, _⟩ := info_of inf33; ⟨i, a, c⟩⟩
instance : TZeroC Tryz.prog 34 [(.pointer none)] := ⟨let ⟨i, a, b, _, _⟩ := info_of inf34; ⟨i, _, a, b, rfl⟩⟩
instance : TCell Tryz.prog 34 := ⟨⟨_, Tryz.underlying34, rfl⟩, let ⟨i, a, _, c, _⟩ := info_of inf34; ⟨i, a, c⟩⟩
instance : TPtr Tryz.prog 34 := ⟨_, Tryz.underlying34⟩
instance : TZeroC Tryz.prog 35 [.nilFunc] := ⟨let ⟨i, a, b, _, _⟩ := info_of inf35; ⟨i, _, a, b, rfl⟩⟩
instance : TCell Tryz.prog 35 := ⟨⟨_, Tryz.underlying35, rfl⟩, let ⟨i, a, _, c, _⟩ := info_of inf35; ⟨i, a, c⟩⟩
instance : TZeroC Tryz.prog 36 [.nilFunc] := ⟨let ⟨i, a, b, _, _⟩ := info_of inf36; ⟨i, _, a, b, rfl⟩⟩
instance : TCell Tryz.prog 36 := ⟨⟨_, Tryz.underlying36, rfl⟩, let ⟨i, a, _, c, _⟩ := info_of inf36; ⟨i, a, c⟩⟩
instance : TZeroC Tryz.prog 37 [(.slice none 0 0)] := ⟨let ⟨i, a, b, _, _⟩ := info_of inf37; ⟨i, _, a, b, rfl⟩⟩
instance : TCell Tryz.prog 37 := ⟨⟨_, Tryz.underlying37, rfl⟩, let ⟨i, a, _, c, _⟩ := info_of inf37; ⟨i, a, c⟩⟩
instance : TSlice Tryz.prog 37 42 1 := ⟨let ⟨i, a, _, c, _⟩ := info_of inf42; ⟨i, Tryz.underlying37, a, c⟩⟩
instance : TElem Tryz.prog 37 42 1 8 [(.pointer none)] := ⟨let ⟨i, a, b, c, d⟩ := info_of inf42; ⟨i, _, Tryz.underlying37, a, c, d, b, rfl, rfl⟩⟩
instance : TZeroC Tryz.prog 38 [(.slice none 0 0)] := ⟨let ⟨i, a, b, _, _⟩ := info_of inf38; ⟨i, _, a, b, rfl⟩⟩
instance : TCell Tryz.prog 38 := ⟨⟨_, Tryz.underlying38, rfl⟩, let ⟨i, a, _, c, _⟩ := info_of inf38; ⟨i, a, c⟩⟩
instance : TSlice Tryz.prog 38 52 3 := ⟨let ⟨i, a, _, c, _⟩ := info_of inf52; ⟨i, Tryz.underlying38, a, c⟩⟩
instance : TElem Tryz.prog 38 52 3 40 [(.int .i64 0), (.int .u64 0), (.slice none 0 0)] := ⟨let ⟨i, a, b, c, d⟩ := info_of inf52; ⟨i, _, Tryz.underlying38, a, c, d, b, rfl, rfl⟩⟩
instance : TZeroC Tryz.prog 39 [(.int .u64 0)] := ⟨let ⟨i, a, b, _, _⟩ := info_of inf39; ⟨i, _, a, b, rfl⟩⟩
instance : TCell Tryz.prog 39 := ⟨⟨_, Tryz.underlying39, rfl⟩, let ⟨i, a, _, c, _⟩ := info_of inf39; ⟨i, a, c⟩⟩
instance : TInt Tryz.prog 39 .u64 := ⟨Tryz.underlying39⟩
instance : TZeroC Tryz.prog 40 [(.int .u8 0), (.int .u8 0), (.int .u64 0)] := ⟨let ⟨i, a, b, _, _⟩ := info_of inf40; ⟨i, _, a, b, rfl⟩⟩
instance : TAgg Tryz.prog 40 3 := ⟨⟨_, Tryz.underlying40, rfl⟩, let ⟨i, a, _, c, _⟩ := info_of inf40; ⟨i, a, c⟩⟩
instance : TFld Tryz.prog 40 0 0 := ⟨let ⟨i, a, _, c, _⟩ := info_of inf5; ⟨_, _, i, Tryz.underlying40, rfl, rfl, a, by rw [c]; decide⟩⟩
instance : TFld Tryz.prog 40 1 1 := ⟨let ⟨i, a, _, c, _⟩ := info_of inf5; ⟨_, _, i, Tryz.underlying40, rfl, rfl, a, by rw [c]; decide⟩⟩
instance : TFld Tryz.prog 40 2 2 := ⟨let ⟨i, a, _, c, _⟩ := info_of inf39; ⟨_, _, i, Tryz.underlying40, rfl, rfl, a, by rw [c]; decide⟩⟩
instance : TFldV Tryz.prog 40 0 0 := ⟨⟨_, _, _, Tryz.underlying40, rfl, rfl, Tryz.underlying5, rfl⟩⟩
instance : TFldV Tryz.prog 40 1 1 := ⟨⟨_, _, _, Tryz.underlying40, rfl, rfl, Tryz.underlying5, rfl⟩⟩
instance : TFldV Tryz.prog 40 2 2 := ⟨⟨_, _, _, Tryz.underlying40, rfl, rfl, Tryz.underlying39, rfl⟩⟩
instance : TStruct Tryz.prog 40 [(0, 1), (1, 1), (2, 1)] [(.int .u8 0), (.int .u8 0), (.int .u64 0)] := ⟨let ⟨i, a, b, _, _⟩ := info_of inf40; ⟨i, _, _, a, b, rfl, Tryz.underlying40, by kernel_rfl⟩⟩
instance : TZeroC Tryz.prog 41 [(.int .u8 0), (.int .u8 0), (.int .u64 0)] := ⟨let ⟨i, a, b, _, _⟩ := info_of inf41; ⟨i, _, a, b, rfl⟩⟩
instance : TAgg Tryz.prog 41 3 := ⟨⟨_, Tryz.underlying41, rfl⟩, let ⟨i, a, _, c, _⟩ := info_of inf41; ⟨i, a, c⟩⟩
instance : TFld Tryz.prog 41 0 0 := ⟨let ⟨i, a, _, c, _⟩ := info_of inf5; ⟨_, _, i, Tryz.underlying41, rfl, rfl, a, by rw [c]; decide⟩⟩
instance : TFld Tryz.prog 41 1 1 := ⟨let ⟨i, a, _, c, _⟩ := info_of inf5; ⟨_, _, i, Tryz.underlying41, rfl, rfl, a, by rw [c]; decide⟩⟩
instance : TFld Tryz.prog 41 2 2 := ⟨let ⟨i, a, _, c, _⟩ := info_of inf39; ⟨_, _, i, Tryz.underlying41, rfl, rfl, a, by rw [c]; decide⟩⟩
instance : TFldV Tryz.prog 41 0 0 := ⟨⟨_, _, _, Tryz.underlying41, rfl, rfl, Tryz.underlying5, rfl⟩⟩
instance : TFldV Tryz.prog 41 1 1 := ⟨⟨_, _, _, Tryz.underlying41, rfl, rfl, Tryz.underlying5, rfl⟩⟩
instance : TFldV Tryz.prog 41 2 2 := ⟨⟨_, _, _, Tryz.underlying41, rfl, rfl, Tryz.underlying39, rfl⟩⟩
instance : TFlat Tryz.prog 41 [.int .u8, .int .u8, .int .u64] := ⟨⟨_, Tryz.underlying41, by kernel_rfl⟩, by kernel_rfl, by kernel_rfl⟩
instance : TStruct Tryz.prog 41 [(0, 1), (1, 1), (2, 1)] [(.int .u8 0), (.int .u8 0), (.int .u64 0)] := ⟨let ⟨i, a, b, _, _⟩ := info_of inf41; ⟨i, _, _, a, b, rfl, Tryz.underlying41, by kernel_rfl⟩⟩
instance : TZeroC Tryz.prog 42 [(.pointer none)] := ⟨let ⟨i, a, b, _, _⟩ := info_of inf42; ⟨i, _, a, b, rfl⟩⟩
instance : TCell Tryz.prog 42 := ⟨⟨_, Tryz.underlying42, rfl⟩, let ⟨i, a, _, c, _⟩ := info_of inf42; ⟨i, a, c⟩⟩
instance : TPtr Tryz.prog 42 := ⟨_, Tryz.underlying42⟩
instance : TZeroC Tryz.prog 43 [.nilIface] := ⟨let ⟨i, a, b, _, _⟩ := info_of inf43; ⟨i, _, a, b, rfl⟩⟩
instance : TCell Tryz.prog 43 := ⟨⟨_, Tryz.underlying43, rfl⟩, let ⟨i, a, _, c, _⟩ := info_of inf43; ⟨i, a, c⟩⟩
instance : TZeroC Tryz.prog 44 [.nilIface] := ⟨let ⟨i, a, b, _, _⟩ := info_of inf44; ⟨i, _, a, b, rfl⟩⟩
instance : TCell Tryz.prog 44 := ⟨⟨_, Tryz.underlying44, rfl⟩, let ⟨i, a, _, c, _⟩ := info_of inf44; ⟨i, a, c⟩⟩
instance : TZeroC Tryz.prog 45 [.nilIface, .nilFunc, (.int .i64 0), (.int .u64 0)] := ⟨let ⟨i, a, b, _, _⟩ := info_of inf45; ⟨i, _, a, b, rfl⟩⟩
instance : TAgg Tryz.prog 45 4 := ⟨⟨_, Tryz.underlying45, rfl⟩, let ⟨i, a, _, c, _⟩ := info_of inf45; ⟨i, a, c⟩⟩
instance : TFld Tryz.prog 45 0 0 := ⟨let ⟨i, a, _, c, _⟩ := info_of inf44; ⟨_, _, i, Tryz.underlying45, rfl, rfl, a, by rw [c]; decide⟩⟩
instance : TFld Tryz.prog 45 1 1 := ⟨let ⟨i, a, _, c, _⟩ := info_of inf1; ⟨_, _, i, Tryz.underlying45, rfl, rfl, a, by rw [c]; decide⟩⟩
instance : TFld Tryz.prog 45 2 2 := ⟨let ⟨i, a, _, c, _⟩ := info_of inf3; ⟨_, _, i, Tryz.underlying45, rfl, rfl, a, by rw [c]; decide⟩⟩
instance : TFld Tryz.prog 45 3 3 := ⟨let ⟨i, a, _, c, _⟩ := info_of inf39; ⟨_, _, i, Tryz.underlying45, rfl, rfl, a, by rw [c]; decide⟩⟩
instance : TFldV Tryz.prog 45 0 0 := ⟨⟨_, _, _, Tryz.underlying45, rfl, rfl, Tryz.underlying44, rfl⟩⟩
instance : TFldV Tryz.prog 45 1 1 := ⟨⟨_, _, _, Tryz.underlying45, rfl, rfl, Tryz.underlying1, rfl⟩⟩
instance : TFldV Tryz.prog 45 2 2 := ⟨⟨_, _, _, Tryz.underlying45, rfl, rfl, Tryz.underlying3, rfl⟩⟩
instance : TFldV Tryz.prog 45 3 3 := ⟨⟨_, _, _, Tryz.underlying45, rfl, rfl, Tryz.underlying39, rfl⟩⟩
instance : TStruct Tryz.prog 45 [(0, 1), (1, 1), (2, 1), (3, 1)] [.nilIface, .nilFunc, (.int .i64 0), (.int .u64 0)] := ⟨let ⟨i, a, b, _, _⟩ := info_of inf45; ⟨i, _, _, a, b, rfl, Tryz.underlying45, by kernel_rfl⟩⟩
instance : TZeroC Tryz.prog 46 [.nilIface, .nilFunc, (.int .i64 0), (.int .u64 0)] := ⟨let ⟨i, a, b, _, _⟩ := info_of inf46; ⟨i, _, a, b, rfl⟩⟩
instance : TAgg Tryz.prog 46 4 := ⟨⟨_, Tryz.underlying46, rfl⟩, let ⟨i, a, _, c, _⟩ := info_of inf46; ⟨i, a, c⟩⟩
instance : TFld Tryz.prog 46 0 0 := ⟨let ⟨i, a, _, c, _⟩ := info_of inf44; ⟨_, _, i, Tryz.underlying46, rfl, rfl, a, by rw [c]; decide⟩⟩
instance : TFld Tryz.prog 46 1 1 := ⟨let ⟨i, a, _, c, _⟩ := info_of inf1; ⟨_, _, i, Tryz.underlying46, rfl, rfl, a, by rw [c]; decide⟩⟩
instance : TFld Tryz.prog 46 2 2 := ⟨let ⟨i, a, _, c, _⟩ := info_of inf3; ⟨_, _, i, Tryz.underlying46, rfl, rfl, a, by rw [c]; decide⟩⟩
instance : TFld Tryz.prog 46 3 3 := ⟨let ⟨i, a, _, c, _⟩ := info_of inf39; ⟨_, _, i, Tryz.underlying46, rfl, rfl, a, by rw [c]; decide⟩⟩
instance : TFldV Tryz.prog 46 0 0 := ⟨⟨_, _, _, Tryz.underlying46, rfl, rfl, Tryz.underlying44, rfl⟩⟩
instance : TFldV Tryz.prog 46 1 1 := ⟨⟨_, _, _, Tryz.underlying46, rfl, rfl, Tryz.underlying1, rfl⟩⟩
instance : TFldV Tryz.prog 46 2 2 := ⟨⟨_, _, _, Tryz.underlying46, rfl, rfl, Tryz.underlying3, rfl⟩⟩
instance : TFldV Tryz.prog 46 3 3 := ⟨⟨_, _, _, Tryz.underlying46, rfl, rfl, Tryz.underlying39, rfl⟩⟩
instance : TStruct Tryz.prog 46 [(0, 1), (1, 1), (2, 1), (3, 1)] [.nilIface, .nilFunc, (.int .i64 0), (.int .u64 0)] := ⟨let ⟨i, a, b, _, _⟩ := info_of inf46; ⟨i, _, _, a, b, rfl, Tryz.underlying46, by kernel_rfl⟩⟩
instance : TZeroC Tryz.prog 47 [.nilIface, .nilFunc, (.int .i64 0), (.int .u64 0), (.pointer none)] := ⟨let ⟨i, a, b, _, _⟩ := info_of inf47; ⟨i, _, a, b, rfl⟩⟩
instance : TAgg Tryz.prog 47 5 := ⟨⟨_, Tryz.underlying47, rfl⟩, let ⟨i, a, _, c, _⟩ := info_of inf47; ⟨i, a, c⟩⟩
instance : TFld Tryz.prog 47 0 0 := ⟨let ⟨i, a, _, c, _⟩ := info_of inf46; ⟨_, _, i, Tryz.underlying47, rfl, rfl, a, by rw [c]; decide⟩⟩
instance : TFld Tryz.prog 47 1 4 := ⟨let ⟨i, a, _, c, _⟩ := info_of inf29; ⟨_, _, i, Tryz.underlying47, rfl, rfl, a, by rw [c]; decide⟩⟩
instance : TFldA Tryz.prog 47 0 0 4 := ⟨let ⟨i, a, _, c, _⟩ := info_of inf46; ⟨_, _, _, i, Tryz.underlying47, rfl, rfl, Tryz.underlying46, rfl, a, c⟩⟩
instance : TFldV Tryz.prog 47 1 4 := ⟨⟨_, _, _, Tryz.underlying47, rfl, rfl, Tryz.underlying29, rfl⟩⟩
instance : TStruct Tryz.prog 47 [(0, 4), (4, 1)] [.nilIface, .nilFunc, (.int .i64 0), (.int .u64 0), (.pointer none)] := ⟨let ⟨i, a, b, _, _⟩ := info_of inf47; ⟨i, _, _, a, b, rfl, Tryz.underlying47, by kernel_rfl⟩⟩
instance : TZeroC Tryz.prog 48 [.nilIface, .nilFunc, (.int .i64 0), (.int .u64 0), (.pointer none)] := ⟨let ⟨i, a, b, _, _⟩ := info_of inf48; ⟨i, _, a, b, rfl⟩⟩
instance : TAgg Tryz.prog 48 5 := ⟨⟨_, Tryz.underlying48, rfl⟩, let ⟨i, a, _, c, _⟩ := info_of inf48; ⟨i, a, c⟩⟩
instance : TFld Tryz.prog 48 0 0 := ⟨let ⟨i, a, _, c, _⟩ := info_of inf46; ⟨_, _, i, Tryz.underlying48, rfl, rfl, a, by rw [c]; decide⟩⟩
instance : TFld Tryz.prog 48 1 4 := ⟨let ⟨i, a, _, c, _⟩ := info_of inf29; ⟨_, _, i, Tryz.underlying48, rfl, rfl, a, by rw [c]; decide⟩⟩
instance : TFldA Tryz.prog 48 0 0 4 := ⟨let ⟨i, a, _, c, _⟩ := info_of inf46; ⟨_, _, _, i, Tryz.underlying48, rfl, rfl, Tryz.underlying46, rfl, a, c⟩⟩
instance : TFldV Tryz.prog 48 1 4 := ⟨⟨_, _, _, Tryz.underlying48, rfl, rfl, Tryz.underlying29, rfl⟩⟩
instance : TStruct Tryz.prog 48 [(0, 4), (4, 1)] [.nilIface, .nilFunc, (.int .i64 0), (.int .u64 0), (.pointer none)] := ⟨let ⟨i, a, b, _, _⟩ := info_of inf48; ⟨i, _, _, a, b, rfl, Tryz.underlying48, by kernel_rfl⟩⟩
instance : TZeroC Tryz.prog 49 [.nilFunc] := ⟨let ⟨i, a, b, _, _⟩ := info_of inf49; ⟨i, _, a, b, rfl⟩⟩
instance : TCell Tryz.prog 49 := ⟨⟨_, Tryz.underlying49, rfl⟩, let ⟨i, a, _, c, _⟩ := info_of inf49; ⟨i, a, c⟩⟩
instance : TZeroC Tryz.prog 50 [(.slice none 0 0)] := ⟨let ⟨i, a, b, _, _⟩ := info_of inf50; ⟨i, _, a, b, rfl⟩⟩
instance : TCell Tryz.prog 50 := ⟨⟨_, Tryz.underlying50, rfl⟩, let ⟨i, a, _, c, _⟩ := info_of inf50; ⟨i, a, c⟩⟩
instance : TSlice Tryz.prog 50 39 1 := ⟨let ⟨i, a, _, c, _⟩ := info_of inf39; ⟨i, Tryz.underlying50, a, c⟩⟩
instance : TElem Tryz.prog 50 39 1 8 [(.int .u64 0)] := ⟨let ⟨i, a, b, c, d⟩ := info_of inf39; ⟨i, _, Tryz.underlying50, a, c, d, b, rfl, rfl⟩⟩
instance : TZeroC Tryz.prog 51 [(.int .i64 0), (.int .u64 0), (.slice none 0 0)] := ⟨let ⟨i, a, b, _, _⟩ := info_of inf51; ⟨i, _, a, b, rfl⟩⟩
instance : TAgg Tryz.prog 51 3 := ⟨⟨_, Tryz.underlying51, rfl⟩, let ⟨i, a, _, c, _⟩ := info_of inf51; ⟨i, a, c⟩⟩
instance : TFld Tryz.prog 51 0 0 := ⟨let ⟨i, a, _, c, _⟩ := info_of inf3; ⟨_, _, i, Tryz.underlying51, rfl, rfl, a, by rw [c]; decide⟩⟩
instance : TFld Tryz.prog 51 1 1 := ⟨let ⟨i, a, _, c, _⟩ := info_of inf39; ⟨_, _, i, Tryz.underlying51, rfl, rfl, a, by rw [c]; decide⟩⟩
instance : TFld Tryz.prog 51 2 2 := ⟨let ⟨i, a, _, c, _⟩ := info_of inf50; ⟨_, _, i, Tryz.underlying51, rfl, rfl, a, by rw [c]; decide⟩⟩
instance : TFldV Tryz.prog 51 0 0 := ⟨⟨_, _, _, Tryz.underlying51, rfl, rfl, Tryz.underlying3, rfl⟩⟩
instance : TFldV Tryz.prog 51 1 1 := ⟨⟨_, _, _, Tryz.underlying51, rfl, rfl, Tryz.underlying39, rfl⟩⟩
instance : TFldV Tryz.prog 51 2 2 := ⟨⟨_, _, _, Tryz.underlying51, rfl, rfl, Tryz.underlying50, rfl⟩⟩
instance : TStruct Tryz.prog 51 [(0, 1), (1, 1), (2, 1)] [(.int .i64 0), (.int .u64 0), (.slice none 0 0)] := ⟨let ⟨i, a, b, _, _⟩ := info_of inf51; ⟨i, _, _, a, b, rfl, Tryz.underlying51, by kernel_rfl⟩⟩
instance : TZeroC Tryz.prog 52 [(.int .i64 0), (.int .u64 0), (.slice none 0 0)] := ⟨let ⟨i, a, b, _, _⟩ := info_of inf52; ⟨i, _, a, b, rfl⟩⟩
instance : TAgg Tryz.prog 52 3 := ⟨⟨_, Tryz.underlying52, rfl⟩, let ⟨i, a, _, c, _⟩ := info_of inf52; ⟨i, a, c⟩⟩
instance : TFld Tryz.prog 52 0 0 := ⟨let ⟨i, a, _, c, _⟩ := info_of inf3; ⟨_, _, i, Tryz.underlying52, rfl, rfl, a, by rw [c]; decide⟩⟩
instance : TFld Tryz.prog 52 1 1 := ⟨let ⟨i, a, _, c, _⟩ := info_of inf39; ⟨_, _, i, Tryz.underlying52, rfl, rfl, a, by rw [c]; decide⟩⟩
instance : TFld Tryz.prog 52 2 2 := ⟨let ⟨i, a, _, c, _⟩ := info_of inf50; ⟨_, _, i, Tryz.underlying52, rfl, rfl, a, by rw [c]; decide⟩⟩
instance : TFldV Tryz.prog 52 0 0 := ⟨⟨_, _, _, Tryz.underlying52, rfl, rfl, Tryz.underlying3, rfl⟩⟩
instance : TFldV Tryz.prog 52 1 1 := ⟨⟨_, _, _, Tryz.underlying52, rfl, rfl, Tryz.underlying39, rfl⟩⟩
instance : TFldV Tryz.prog 52 2 2 := ⟨⟨_, _, _, Tryz.underlying52, rfl, rfl, Tryz.underlying50, rfl⟩⟩
instance : TStruct Tryz.prog 52 [(0, 1), (1, 1), (2, 1)] [(.int .i64 0), (.int .u64 0), (.slice none 0 0)] := ⟨let ⟨i, a, b, _, _⟩ := info_of inf52; ⟨i, _, _, a, b, rfl, Tryz.underlying52, by kernel_rfl⟩⟩
instance : TZeroC Tryz.prog 53 [.nilFunc] := ⟨let ⟨i, a, b, _, _⟩ := info_of inf53; ⟨i, _, a, b, rfl⟩⟩
instance : TCell Tryz.prog 53 := ⟨⟨_, Tryz.underlying53, rfl⟩, let ⟨i, a, _, c, _⟩ := info_of inf53; ⟨i, a, c⟩⟩
instance : TZeroC Tryz.prog 54 [.nilFunc] := ⟨let ⟨i, a, b, _, _⟩ := info_of inf54; ⟨i, _, a, b, rfl⟩⟩
instance : TCell Tryz.prog 54 := ⟨⟨_, Tryz.underlying54, rfl⟩, let ⟨i, a, _, c, _⟩ := info_of inf54; ⟨i, a, c⟩⟩
instance : TZeroC Tryz.prog 55 [(.bool false), (.int .i64 0), (.int .i64 0), (.int .u64 0), (.int .u64 0), (.int .i64 0), (.int .u64 0), (.int .u64 0)] := ⟨let ⟨i, a, b, _, _⟩ := info_of inf55; ⟨i, _, a, b, rfl⟩⟩
instance : TAgg Tryz.prog 55 8 := ⟨⟨_, Tryz.underlying55, rfl⟩, let ⟨i, a, _, c, _⟩ := info_of inf55; ⟨i, a, c⟩⟩
instance : TFld Tryz.prog 55 0 0 := ⟨let ⟨i, a, _, c, _⟩ := info_of inf4; ⟨_, _, i, Tryz.underlying55, rfl, rfl, a, by rw [c]; decide⟩⟩
instance : TFld Tryz.prog 55 1 1 := ⟨let ⟨i, a, _, c, _⟩ := info_of inf3; ⟨_, _, i, Tryz.underlying55, rfl, rfl, a, by rw [c]; decide⟩⟩
instance : TFld Tryz.prog 55 2 2 := ⟨let ⟨i, a, _, c, _⟩ := info_of inf3; ⟨_, _, i, Tryz.underlying55, rfl, rfl, a, by rw [c]; decide⟩⟩
instance : TFld Tryz.prog 55 3 3 := ⟨let ⟨i, a, _, c, _⟩ := info_of inf39; ⟨_, _, i, Tryz.underlying55, rfl, rfl, a, by rw [c]; decide⟩⟩
instance : TFld Tryz.prog 55 4 4 := ⟨let ⟨i, a, _, c, _⟩ := info_of inf39; ⟨_, _, i, Tryz.underlying55, rfl, rfl, a, by rw [c]; decide⟩⟩
instance : TFld Tryz.prog 55 5 5 := ⟨let ⟨i, a, _, c, _⟩ := info_of inf3; ⟨_, _, i, Tryz.underlying55, rfl, rfl, a, by rw [c]; decide⟩⟩
instance : TFld Tryz.prog 55 6 6 := ⟨let ⟨i, a, _, c, _⟩ := info_of inf39; ⟨_, _, i, Tryz.underlying55, rfl, rfl, a, by rw [c]; decide⟩⟩
instance : TFld Tryz.prog 55 7 7 := ⟨let ⟨i, a, _, c, _⟩ := info_of inf39; ⟨_, _, i, Tryz.underlying55, rfl, rfl, a, by rw [c]; decide⟩⟩
instance : TFldV Tryz.prog 55 0 0 := ⟨⟨_, _, _, Tryz.underlying55, rfl, rfl, Tryz.underlying4, rfl⟩⟩
instance : TFldV Tryz.prog 55 1 1 := ⟨⟨_, _, _, Tryz.underlying55, rfl, rfl, Tryz.underlying3, rfl⟩⟩
instance : TFldV Tryz.prog 55 2 2 := ⟨⟨_, _, _, Tryz.underlying55, rfl, rfl, Tryz.underlying3, rfl⟩⟩
instance : TFldV Tryz.prog 55 3 3 := ⟨⟨_, _, _, Tryz.underlying55, rfl, rfl, Tryz.underlying39, rfl⟩⟩
instance : TFldV Tryz.prog 55 4 4 := ⟨⟨_, _, _, Tryz.underlying55, rfl, rfl, Tryz.underlying39, rfl⟩⟩
instance : TFldV Tryz.prog 55 5 5 := ⟨⟨_, _, _, Tryz.underlying55, rfl, rfl, Tryz.underlying3, rfl⟩⟩
instance : TFldV Tryz.prog 55 6 6 := ⟨⟨_, _, _, Tryz.underlying55, rfl, rfl, Tryz.underlying39, rfl⟩⟩
instance : TFldV Tryz.prog 55 7 7 := ⟨⟨_, _, _, Tryz.underlying55, rfl, rfl, Tryz.underlying39, rfl⟩⟩
instance : TStruct Tryz.prog 55 [(0, 1), (1, 1), (2, 1), (3, 1), (4, 1), (5, 1), (6, 1), (7, 1)] [(.bool false), (.int .i64 0), (.int .i64 0), (.int .u64 0), (.int .u64 0), (.int .i64 0), (.int .u64 0), (.int .u64 0)] := ⟨let ⟨i, a, b, _, _⟩ := info_of inf55; ⟨i, _, _, a, b, rfl, Tryz.underlying55, by kernel_rfl⟩⟩
instance : TZeroC Tryz.prog 56 [(.bool false), (.int .i64 0), (.int .i64 0), (.int .u64 0), (.int .u64 0), (.int .i64 0), (.int .u64 0), (.int .u64 0)] := ⟨let ⟨i, a, b, _, _⟩ := info_of inf56; ⟨i, _, a, b, rfl⟩⟩
instance : TAgg Tryz.prog 56 8 := ⟨⟨_, Tryz.underlying56, rfl⟩, let ⟨i, a, _, c, _⟩ := info_of inf56; ⟨i, a, c⟩⟩
instance : TFld Tryz.prog 56 0 0 := ⟨let ⟨i, a, _, c, _⟩ := info_of inf4; ⟨_, _, i, Tryz.underlying56, rfl, rfl, a, by rw [c]; decide⟩⟩
instance : TFld Tryz.prog 56 1 1 := ⟨let ⟨i, a, _, c, _⟩ := info_of inf3; ⟨_, _, i, Tryz.underlying56, rfl, rfl, a, by rw [c]; decide⟩⟩
instance : TFld Tryz.prog 56 2 2 := ⟨let ⟨i, a, _, c, _⟩ := info_of inf3; ⟨_, _, i, Tryz.underlying56, rfl, rfl, a, by rw [c]; decide⟩⟩
instance : TFld Tryz.prog 56 3 3 := ⟨let ⟨i, a, _, c, _⟩ := info_of inf39; ⟨_, _, i, Tryz.underlying56, rfl, rfl, a, by rw [c]; decide⟩⟩
instance : TFld Tryz.prog 56 4 4 := ⟨let ⟨i, a, _, c, _⟩ := info_of inf39; ⟨_, _, i, Tryz.underlying56, rfl, rfl, a, by rw [c]; decide⟩⟩
instance : TFld Tryz.prog 56 5 5 := ⟨let ⟨i, a, _, c, _⟩ := info_of inf3; ⟨_, _, i, Tryz.underlying56, rfl, rfl, a, by rw [c]; decide⟩⟩
instance : TFld Tryz.prog 56 6 6 := ⟨let ⟨i, a, _, c, _⟩ := info_of inf39; ⟨_, _, i, Tryz.underlying56, rfl, rfl, a, by rw [c]; decide⟩⟩
instance : TFld Tryz.prog 56 7 7 := ⟨let ⟨i, a, _, c, _⟩ := info_of inf39; ⟨_, _, i, Tryz.underlying56, rfl, rfl, a, by rw [c]; decide⟩⟩
instance : TFldV Tryz.prog 56 0 0 := ⟨⟨_, _, _, Tryz.underlying56, rfl, rfl, Tryz.underlying4, rfl⟩⟩
instance : TFldV Tryz.prog 56 1 1 := ⟨⟨_, _, _, Tryz.underlying56, rfl, rfl, Tryz.underlying3, rfl⟩⟩
instance : TFldV Tryz.prog 56 2 2 := ⟨⟨_, _, _, Tryz.underlying56, rfl, rfl, Tryz.underlying3, rfl⟩⟩
instance : TFldV Tryz.prog 56 3 3 := ⟨⟨_, _, _, Tryz.underlying56, rfl, rfl, Tryz.underlying39, rfl⟩⟩
instance : TFldV Tryz.prog 56 4 4 := ⟨⟨_, _, _, Tryz.underlying56, rfl, rfl, Tryz.underlying39, rfl⟩⟩
instance : TFldV Tryz.prog 56 5 5 := ⟨⟨_, _, _, Tryz.underlying56, rfl, rfl, Tryz.underlying3, rfl⟩⟩
instance : TFldV Tryz.prog 56 6 6 := ⟨⟨_, _, _, Tryz.underlying56, rfl, rfl, Tryz.underlying39, rfl⟩⟩
instance : TFldV Tryz.prog 56 7 7 := ⟨⟨_, _, _, Tryz.underlying56, rfl, rfl, Tryz.underlying39, rfl⟩⟩
instance : TFlat Tryz.prog 56 [.bool, .int .i64, .int .i64, .int .u64, .int .u64, .int .i64, .int .u64, .int .u64] := ⟨⟨_, Tryz.underlying56, by kernel_rfl⟩, by kernel_rfl, by kernel_rfl⟩
instance : TStruct Tryz.prog 56 [(0, 1), (1, 1), (2, 1), (3, 1), (4, 1), (5, 1), (6, 1), (7, 1)] [(.bool false), (.int .i64 0), (.int .i64 0), (.int .u64 0), (.int .u64 0), (.int .i64 0), (.int .u64 0), (.int .u64 0)] := ⟨let ⟨i, a, b, _, _⟩ := info_of inf56; ⟨i, _, _, a, b, rfl, Tryz.underlying56, by kernel_rfl⟩⟩
instance : TZeroC Tryz.prog 57 [.nilFunc] := ⟨let ⟨i, a, b, _, _⟩ := info_of inf57; ⟨i, _, a, b, rfl⟩⟩
instance : TCell Tryz.prog 57 := ⟨⟨_, Tryz.underlying57, rfl⟩, let ⟨i, a, _, c, _⟩ := info_of inf57; ⟨i, a, c⟩⟩
instance : TZeroC Tryz.prog 58 [.nilFunc] := ⟨let ⟨i, a, b, _, _⟩ := info_of inf58; ⟨i, _, a, b, rfl⟩⟩
instance : TCell Tryz.prog 58 := ⟨⟨_, Tryz.underlying58, rfl⟩, let ⟨i, a, _, c, _⟩ := info_of inf58; ⟨i, a, c⟩⟩
instance : TZeroC Tryz.prog 59 [.nilFunc] := ⟨let ⟨i, a, b, _, _⟩ := info_of inf59; ⟨i, _, a, b, rfl⟩⟩
instance : TCell Tryz.prog 59 := ⟨⟨_, Tryz.underlying59, rfl⟩, let ⟨i, a, _, c, _⟩ := info_of inf59; ⟨i, a, c⟩⟩
instance : TZeroC Tryz.prog 60 [(.slice none 0 0), (.int .i64 0)] := ⟨let ⟨i, a, b, _, _⟩ := info_of inf60; ⟨i, _, a, b, rfl⟩⟩
instance : TAgg Tryz.prog 60 2 := ⟨⟨_, Tryz.underlying60, rfl⟩, let ⟨i, a, _, c, _⟩ := info_of inf60; ⟨i, a, c⟩⟩
instance : TFld Tryz.prog 60 0 0 := ⟨let ⟨i, a, _, c, _⟩ := info_of inf50; ⟨_, _, i, Tryz.underlying60, rfl, rfl, a, by rw [c]; decide⟩⟩
instance : TFld Tryz.prog 60 1 1 := ⟨let ⟨i, a, _, c, _⟩ := info_of inf3; ⟨_, _, i, Tryz.underlying60, rfl, rfl, a, by rw [c]; decide⟩⟩
instance : TFldV Tryz.prog 60 0 0 := ⟨⟨_, _, _, Tryz.underlying60, rfl, rfl, Tryz.underlying50, rfl⟩⟩
instance : TFldV Tryz.prog 60 1 1 := ⟨⟨_, _, _, Tryz.underlying60, rfl, rfl, Tryz.underlying3, rfl⟩⟩
instance : TStruct Tryz.prog 60 [(0, 1), (1, 1)] [(.slice none 0 0), (.int .i64 0)] := ⟨let ⟨i, a, b, _, _⟩ := info_of inf60; ⟨i, _, _, a, b, rfl, Tryz.underlying60, by kernel_rfl⟩⟩
instance : TZeroC Tryz.prog 61 [(.slice none 0 0), (.int .i64 0)] := ⟨let ⟨i, a, b, _, _⟩ := info_of inf61; ⟨i, _, a, b, rfl⟩⟩
instance : TAgg Tryz.prog 61 2 := ⟨⟨_, Tryz.underlying61, rfl⟩, let ⟨i, a, _, c, _⟩ := info_of inf61; ⟨i, a, c⟩⟩
instance : TFld Tryz.prog 61 0 0 := ⟨let ⟨i, a, _, c, _⟩ := info_of inf50; ⟨_, _, i, Tryz.underlying61, rfl, rfl, a, by rw [c]; decide⟩⟩
instance : TFld Tryz.prog 61 1 1 := ⟨let ⟨i, a, _, c, _⟩ := info_of inf3; ⟨_, _, i, Tryz.underlying61, rfl, rfl, a, by rw [c]; decide⟩⟩
instance : TFldV Tryz.prog 61 0 0 := ⟨⟨_, _, _, Tryz.underlying61, rfl, rfl, Tryz.underlying50, rfl⟩⟩
instance : TFldV Tryz.prog 61 1 1 := ⟨⟨_, _, _, Tryz.underlying61, rfl, rfl, Tryz.underlying3, rfl⟩⟩
instance : TStruct Tryz.prog 61 [(0, 1), (1, 1)] [(.slice none 0 0), (.int .i64 0)] := ⟨let ⟨i, a, b, _, _⟩ := info_of inf61; ⟨i, _, _, a, b, rfl, Tryz.underlying61, by kernel_rfl⟩⟩
instance : TZeroC Tryz.prog 62 [.nilFunc] := ⟨let ⟨i, a, b, _, _⟩ := info_of inf62; ⟨i, _, a, b, rfl⟩⟩
instance : TCell Tryz.prog 62 := ⟨⟨_, Tryz.underlying62, rfl⟩, let ⟨i, a, _, c, _⟩ := info_of inf62; ⟨i, a, c⟩⟩
instance : TZeroC Tryz.prog 64 [.nilFunc] := ⟨let ⟨i, a, b, _, _⟩ := info_of inf64; ⟨i, _, a, b, rfl⟩⟩
instance : TCell Tryz.prog 64 := ⟨⟨_, Tryz.underlying64, rfl⟩, let ⟨i, a, _, c, _⟩ := info_of inf64; ⟨i, a, c⟩⟩
instance : TZeroC Tryz.prog 65 [.nilFunc] := ⟨let ⟨i, a, b, _, _⟩ := info_of inf65; ⟨i, _, a, b, rfl⟩⟩
instance : TCell Tryz.prog 65 := ⟨⟨_, Tryz.underlying65, rfl⟩, let ⟨i, a, _, c, _⟩ := info_of inf65; ⟨i, a, c⟩⟩
instance : TZeroC Tryz.prog 66 [.nilFunc] := ⟨let ⟨i, a, b, _, _⟩ := info_of inf66; ⟨i, _, a, b, rfl⟩⟩
instance : TCell Tryz.prog 66 := ⟨⟨_, Tryz.underlying66, rfl⟩, let ⟨i, a, _, c, _⟩ := info_of inf66; ⟨i, a, c⟩⟩
instance : TZeroC Tryz.prog 67 [.nilFunc] := ⟨let ⟨i, a, b, _, _⟩ := info_of inf67; ⟨i, _, a, b, rfl⟩⟩
instance : TCell Tryz.prog 67 := ⟨⟨_, Tryz.underlying67, rfl⟩, let ⟨i, a, _, c, _⟩ := info_of inf67; ⟨i, a, c⟩⟩
instance : TZeroC Tryz.prog 68 [(.slice none 0 0), (.int .i64 0)] := ⟨let ⟨i, a, b, _, _⟩ := info_of inf68; ⟨i, _, a, b, rfl⟩⟩
instance : TAgg Tryz.prog 68 2 := ⟨⟨_, Tryz.underlying68, rfl⟩, let ⟨i, a, _, c, _⟩ := info_of inf68; ⟨i, a, c⟩⟩
instance : TFld Tryz.prog 68 0 0 := ⟨let ⟨i, a, _, c, _⟩ := info_of inf50; ⟨_, _, i, Tryz.underlying68, rfl, rfl, a, by rw [c]; decide⟩⟩
instance : TFld Tryz.prog 68 1 1 := ⟨let ⟨i, a, _, c, _⟩ := info_of inf3; ⟨_, _, i, Tryz.underlying68, rfl, rfl, a, by rw [c]; decide⟩⟩
instance : TFldV Tryz.prog 68 0 0 := ⟨⟨_, _, _, Tryz.underlying68, rfl, rfl, Tryz.underlying50, rfl⟩⟩
instance : TFldV Tryz.prog 68 1 1 := ⟨⟨_, _, _, Tryz.underlying68, rfl, rfl, Tryz.underlying3, rfl⟩⟩
instance : TStruct Tryz.prog 68 [(0, 1), (1, 1)] [(.slice none 0 0), (.int .i64 0)] := ⟨let ⟨i, a, b, _, _⟩ := info_of inf68; ⟨i, _, _, a, b, rfl, Tryz.underlying68, by kernel_rfl⟩⟩
instance : TZeroC Tryz.prog 69 [(.slice none 0 0), (.int .i64 0)] := ⟨let ⟨i, a, b, _, _⟩ := info_of inf69; ⟨i, _, a, b, rfl⟩⟩
instance : TAgg Tryz.prog 69 2 := ⟨⟨_, Tryz.underlying69, rfl⟩, let ⟨i, a, _, c, _⟩ := info_of inf69; ⟨i, a, c⟩⟩
instance : TFld Tryz.prog 69 0 0 := ⟨let ⟨i, a, _, c, _⟩ := info_of inf50; ⟨_, _, i, Tryz.underlying69, rfl, rfl, a, by rw [c]; decide⟩⟩
instance : TFld Tryz.prog 69 1 1 := ⟨let ⟨i, a, _, c, _⟩ := info_of inf3; ⟨_, _, i, Tryz.underlying69, rfl, rfl, a, by rw [c]; decide⟩⟩
instance : TFldV Tryz.prog 69 0 0 := ⟨⟨_, _, _, Tryz.underlying69, rfl, rfl, Tryz.underlying50, rfl⟩⟩
instance : TFldV Tryz.prog 69 1 1 := ⟨⟨_, _, _, Tryz.underlying69, rfl, rfl, Tryz.underlying3, rfl⟩⟩
instance : TStruct Tryz.prog 69 [(0, 1), (1, 1)] [(.slice none 0 0), (.int .i64 0)] := ⟨let ⟨i, a, b, _, _⟩ := info_of inf69; ⟨i, _, _, a, b, rfl, Tryz.underlying69, by kernel_rfl⟩⟩
instance : TZeroC Tryz.prog 70 [.nilFunc] := ⟨let ⟨i, a, b, _, _⟩ := info_of inf70; ⟨i, _, a, b, rfl⟩⟩
instance : TCell Tryz.prog 70 := ⟨⟨_, Tryz.underlying70, rfl⟩, let ⟨i, a, _, c, _⟩ := info_of inf70; ⟨i, a, c⟩⟩
instance : TZeroC Tryz.prog 71 [(.pointer none)] := ⟨let ⟨i, a, b, _, _⟩ := info_of inf71; ⟨i, _, a, b, rfl⟩⟩
instance : TCell Tryz.prog 71 := ⟨⟨_, Tryz.underlying71, rfl⟩, let ⟨i, a, _, c, _⟩ := info_of inf71; ⟨i, a, c⟩⟩
instance : TPtr Tryz.prog 71 := ⟨_, Tryz.underlying71⟩
instance : TZeroC Tryz.prog 72 [(.pointer none), (.int .i64 0), (.pointer none), (.pointer none)] := ⟨let ⟨i, a, b, _, _⟩ := info_of inf72; ⟨i, _, a, b, rfl⟩⟩
instance : TAgg Tryz.prog 72 4 := ⟨⟨_, Tryz.underlying72, rfl⟩, let ⟨i, a, _, c, _⟩ := info_of inf72; ⟨i, a, c⟩⟩
instance : TFld Tryz.prog 72 0 0 := ⟨let ⟨i, a, _, c, _⟩ := info_of inf27; ⟨_, _, i, Tryz.underlying72, rfl, rfl, a, by rw [c]; decide⟩⟩
instance : TFld Tryz.prog 72 1 1 := ⟨let ⟨i, a, _, c, _⟩ := info_of inf3; ⟨_, _, i, Tryz.underlying72, rfl, rfl, a, by rw [c]; decide⟩⟩
instance : TFld Tryz.prog 72 2 2 := ⟨let ⟨i, a, _, c, _⟩ := info_of inf71; ⟨_, _, i, Tryz.underlying72, rfl, rfl, a, by rw [c]; decide⟩⟩
instance : TFld Tryz.prog 72 3 3 := ⟨let ⟨i, a, _, c, _⟩ := info_of inf71; ⟨_, _, i, Tryz.underlying72, rfl, rfl, a, by rw [c]; decide⟩⟩
instance : TFldV Tryz.prog 72 0 0 := ⟨⟨_, _, _, Tryz.underlying72, rfl, rfl, Tryz.underlying27, rfl⟩⟩
instance : TFldV Tryz.prog 72 1 1 := ⟨⟨_, _, _, Tryz.underlying72, rfl, rfl, Tryz.underlying3, rfl⟩⟩
instance : TFldV Tryz.prog 72 2 2 := ⟨⟨_, _, _, Tryz.underlying72, rfl, rfl, Tryz.underlying71, rfl⟩⟩
instance : TFldV Tryz.prog 72 3 3 := ⟨⟨_, _, _, Tryz.underlying72, rfl, rfl, Tryz.underlying71, rfl⟩⟩
instance : TStruct Tryz.prog 72 [(0, 1), (1, 1), (2, 1), (3, 1)] [(.pointer none), (.int .i64 0), (.pointer none), (.pointer none)] := ⟨let ⟨i, a, b, _, _⟩ := info_of inf72; ⟨i, _, _, a, b, rfl, Tryz.underlying72, by kernel_rfl⟩⟩
instance : TZeroC Tryz.prog 73 [(.pointer none), (.int .i64 0), (.pointer none), (.pointer none)] := ⟨let ⟨i, a, b, _, _⟩ := info_of inf73; ⟨i, _, a, b, rfl⟩⟩
instance : TAgg Tryz.prog 73 4 := ⟨⟨_, Tryz.underlying73, rfl⟩, let ⟨i, a, _, c, _⟩ := info_of inf73; ⟨i, a, c⟩⟩
instance : TFld Tryz.prog 73 0 0 := ⟨let ⟨i, a, _, c, _⟩ := info_of inf27; ⟨_, _, i, Tryz.underlying73, rfl, rfl, a, by rw [c]; decide⟩⟩
instance : TFld Tryz.prog 73 1 1 := ⟨let ⟨i, a, _, c, _⟩ := info_of inf3; ⟨_, _, i, Tryz.underlying73, rfl, rfl, a, by rw [c]; decide⟩⟩
instance : TFld Tryz.prog 73 2 2 := ⟨let ⟨i, a, _, c, _⟩ := info_of inf71; ⟨_, _, i, Tryz.underlying73, rfl, rfl, a, by rw [c]; decide⟩⟩
instance : TFld Tryz.prog 73 3 3 := ⟨let ⟨i, a, _, c, _⟩ := info_of inf71; ⟨_, _, i, Tryz.underlying73, rfl, rfl, a, by rw [c]; decide⟩⟩
instance : TFldV Tryz.prog 73 0 0 := ⟨⟨_, _, _, Tryz.underlying73, rfl, rfl, Tryz.underlying27, rfl⟩⟩
instance : TFldV Tryz.prog 73 1 1 := ⟨⟨_, _, _, Tryz.underlying73, rfl, rfl, Tryz.underlying3, rfl⟩⟩
instance : TFldV Tryz.prog 73 2 2 := ⟨⟨_, _, _, Tryz.underlying73, rfl, rfl, Tryz.underlying71, rfl⟩⟩
instance : TFldV Tryz.prog 73 3 3 := ⟨⟨_, _, _, Tryz.underlying73, rfl, rfl, Tryz.underlying71, rfl⟩⟩
instance : TStruct Tryz.prog 73 [(0, 1), (1, 1), (2, 1), (3, 1)] [(.pointer none), (.int .i64 0), (.pointer none), (.pointer none)] := ⟨let ⟨i, a, b, _, _⟩ := info_of inf73; ⟨i, _, _, a, b, rfl, Tryz.underlying73, by kernel_rfl⟩⟩
instance : TZeroC Tryz.prog 75 [.nilFunc] := ⟨let ⟨i, a, b, _, _⟩ := info_of inf75; ⟨i, _, a, b, rfl⟩⟩
instance : TCell Tryz.prog 75 := ⟨⟨_, Tryz.underlying75, rfl⟩, let ⟨i, a, _, c, _⟩ := info_of inf75; ⟨i, a, c⟩⟩
instance : TZeroC Tryz.prog 76 [.nilFunc] := ⟨let ⟨i, a, b, _, _⟩ := info_of inf76; ⟨i, _, a, b, rfl⟩⟩
instance : TCell Tryz.prog 76 := ⟨⟨_, Tryz.underlying76, rfl⟩, let ⟨i, a, _, c, _⟩ := info_of inf76; ⟨i, a, c⟩⟩
instance : TZeroC Tryz.prog 77 [.nilFunc] := ⟨let ⟨i, a, b, _, _⟩ := info_of inf77; ⟨i, _, a, b, rfl⟩⟩
instance : TCell Tryz.prog 77 := ⟨⟨_, Tryz.underlying77, rfl⟩, let ⟨i, a, _, c, _⟩ := info_of inf77; ⟨i, a, c⟩⟩
instance : TZeroC Tryz.prog 78 [(.int .i64 0), (.int .i64 0)] := ⟨let ⟨i, a, b, _, _⟩ := info_of inf78; ⟨i, _, a, b, rfl⟩⟩
instance : TAgg Tryz.prog 78 2 := ⟨⟨_, Tryz.underlying78, rfl⟩, let ⟨i, a, _, c, _⟩ := info_of inf78; ⟨i, a, c⟩⟩
instance : TFld Tryz.prog 78 0 0 := ⟨let ⟨i, a, _, c, _⟩ := info_of inf3; ⟨_, _, i, Tryz.underlying78, rfl, rfl, a, by rw [c]; decide⟩⟩
instance : TFld Tryz.prog 78 1 1 := ⟨let ⟨i, a, _, c, _⟩ := info_of inf3; ⟨_, _, i, Tryz.underlying78, rfl, rfl, a, by rw [c]; decide⟩⟩
instance : TFldV Tryz.prog 78 0 0 := ⟨⟨_, _, _, Tryz.underlying78, rfl, rfl, Tryz.underlying3, rfl⟩⟩
instance : TFldV Tryz.prog 78 1 1 := ⟨⟨_, _, _, Tryz.underlying78, rfl, rfl, Tryz.underlying3, rfl⟩⟩
instance : TStruct Tryz.prog 78 [(0, 1), (1, 1)] [(.int .i64 0), (.int .i64 0)] := ⟨let ⟨i, a, b, _, _⟩ := info_of inf78; ⟨i, _, _, a, b, rfl, Tryz.underlying78, by kernel_rfl⟩⟩
instance : TZeroC Tryz.prog 79 [(.int .i64 0), (.int .i64 0)] := ⟨let ⟨i, a, b, _, _⟩ := info_of inf79; ⟨i, _, a, b, rfl⟩⟩
instance : TAgg Tryz.prog 79 2 := ⟨⟨_, Tryz.underlying79, rfl⟩, let ⟨i, a, _, c, _⟩ := info_of inf79; ⟨i, a, c⟩⟩
instance : TFld Tryz.prog 79 0 0 := ⟨let ⟨i, a, _, c, _⟩ := info_of inf3; ⟨_, _, i, Tryz.underlying79, rfl, rfl, a, by rw [c]; decide⟩⟩
instance : TFld Tryz.prog 79 1 1 := ⟨let ⟨i, a, _, c, _⟩ := info_of inf3; ⟨_, _, i, Tryz.underlying79, rfl, rfl, a, by rw [c]; decide⟩⟩
instance : TFldV Tryz.prog 79 0 0 := ⟨⟨_, _, _, Tryz.underlying79, rfl, rfl, Tryz.underlying3, rfl⟩⟩
instance : TFldV Tryz.prog 79 1 1 := ⟨⟨_, _, _, Tryz.underlying79, rfl, rfl, Tryz.underlying3, rfl⟩⟩
instance : TFlat Tryz.prog 79 [.int .i64, .int .i64] := ⟨⟨_, Tryz.underlying79, by kernel_rfl⟩, by kernel_rfl, by kernel_rfl⟩
instance : TStruct Tryz.prog 79 [(0, 1), (1, 1)] [(.int .i64 0), (.int .i64 0)] := ⟨let ⟨i, a, b, _, _⟩ := info_of inf79; ⟨i, _, _, a, b, rfl, Tryz.underlying79, by kernel_rfl⟩⟩
instance : TZeroC Tryz.prog 80 [.nilFunc] := ⟨let ⟨i, a, b, _, _⟩ := info_of inf80; ⟨i, _, a, b, rfl⟩⟩
instance : TCell Tryz.prog 80 := ⟨⟨_, Tryz.underlying80, rfl⟩, let ⟨i, a, _, c, _⟩ := info_of inf80; ⟨i, a, c⟩⟩
instance : TZeroC Tryz.prog 81 [(.pointer none)] := ⟨let ⟨i, a, b, _, _⟩ := info_of inf81; ⟨i, _, a, b, rfl⟩⟩
instance : TCell Tryz.prog 81 := ⟨⟨_, Tryz.underlying81, rfl⟩, let ⟨i, a, _, c, _⟩ := info_of inf81; ⟨i, a, c⟩⟩
instance : TPtr Tryz.prog 81 := ⟨_, Tryz.underlying81⟩
instance : TZeroC Tryz.prog 82 [.nilFunc] := ⟨let ⟨i, a, b, _, _⟩ := info_of inf82; ⟨i, _, a, b, rfl⟩⟩
instance : TCell Tryz.prog 82 := ⟨⟨_, Tryz.underlying82, rfl⟩, let ⟨i, a, _, c, _⟩ := info_of inf82; ⟨i, a, c⟩⟩
instance : TZeroC Tryz.prog 83 [.nilFunc] := ⟨let ⟨i, a, b, _, _⟩ := info_of inf83; ⟨i, _, a, b, rfl⟩⟩
instance : TCell Tryz.prog 83 := ⟨⟨_, Tryz.underlying83, rfl⟩, let ⟨i, a, _, c, _⟩ := info_of inf83; ⟨i, a, c⟩⟩
instance : TZeroC Tryz.prog 84 [.nilFunc] := ⟨let ⟨i, a, b, _, _⟩ := info_of inf84; ⟨i, _, a, b, rfl⟩⟩
instance : TCell Tryz.prog 84 := ⟨⟨_, Tryz.underlying84, rfl⟩, let ⟨i, a, _, c, _⟩ := info_of inf84; ⟨i, a, c⟩⟩
instance : TZeroC Tryz.prog 85 [.nilFunc] := ⟨let ⟨i, a, b, _, _⟩ := info_of inf85; ⟨i, _, a, b, rfl⟩⟩
instance : TCell Tryz.prog 85 := ⟨⟨_, Tryz.underlying85, rfl⟩, let ⟨i, a, _, c, _⟩ := info_of inf85; ⟨i, a, c⟩⟩
instance : TZeroC Tryz.prog 86 [.nilFunc] := ⟨let ⟨i, a, b, _, _⟩ := info_of inf86; ⟨i, _, a, b, rfl⟩⟩
instance : TCell Tryz.prog 86 := ⟨⟨_, Tryz.underlying86, rfl⟩, let ⟨i, a, _, c, _⟩ := info_of inf86; ⟨i, a, c⟩⟩
instance : TZeroC Tryz.prog 87 [.nilFunc] := ⟨let ⟨i, a, b, _, _⟩ := info_of inf87; ⟨i, _, a, b, rfl⟩⟩
instance : TCell Tryz.prog 87 := ⟨⟨_, Tryz.underlying87, rfl⟩, let ⟨i, a, _, c, _⟩ := info_of inf87; ⟨i, a, c⟩⟩
instance : TZeroC Tryz.prog 89 [.nilFunc] := ⟨let ⟨i, a, b, _, _⟩ := info_of inf89; ⟨i, _, a, b, rfl⟩⟩
instance : TCell Tryz.prog 89 := ⟨⟨_, Tryz.underlying89, rfl⟩, let ⟨i, a, _, c, _⟩ := info_of inf89; ⟨i, a, c⟩⟩
instance : TZeroC Tryz.prog 90 [.nilFunc] := ⟨let ⟨i, a, b, _, _⟩ := info_of inf90; ⟨i, _, a, b, rfl⟩⟩
instance : TCell Tryz.prog 90 := ⟨⟨_, Tryz.underlying90, rfl⟩, let ⟨i, a, _, c, _⟩ := info_of inf90; ⟨i, a, c⟩⟩
instance : TZeroC Tryz.prog 91 [.nilFunc] := ⟨let ⟨i, a, b, _, _⟩ := info_of inf91; ⟨i, _, a, b, rfl⟩⟩
instance : TCell Tryz.prog 91 := ⟨⟨_, Tryz.underlying91, rfl⟩, let ⟨i, a, _, c, _⟩ := info_of inf91; ⟨i, a, c⟩⟩
instance : TZeroC Tryz.prog 92 [.nilFunc] := ⟨let ⟨i, a, b, _, _⟩ := info_of inf92; ⟨i, _, a, b, rfl⟩⟩
instance : TCell Tryz.prog 92 := ⟨⟨_, Tryz.underlying92, rfl⟩, let ⟨i, a, _, c, _⟩ := info_of inf92; ⟨i, a, c⟩⟩
instance : TZeroC Tryz.prog 93 [(.pointer none)] := ⟨let ⟨i, a, b, _, _⟩ := info_of inf93; ⟨i, _, a, b, rfl⟩⟩
instance : TCell Tryz.prog 93 := ⟨⟨_, Tryz.underlying93, rfl⟩, let ⟨i, a, _, c, _⟩ := info_of inf93; ⟨i, a, c⟩⟩
instance : TPtr Tryz.prog 93 := ⟨_, Tryz.underlying93⟩
instance : TZeroC Tryz.prog 94 [.nilFunc] := ⟨let ⟨i, a, b, _, _⟩ := info_of inf94; ⟨i, _, a, b, rfl⟩⟩
instance : TCell Tryz.prog 94 := ⟨⟨_, Tryz.underlying94, rfl⟩, let ⟨i, a, _, c, _⟩ := info_of inf94; ⟨i, a, c⟩⟩
instance : TZeroC Tryz.prog 95 [(.slice none 0 0)] := ⟨let ⟨i, a, b, _, _⟩ := info_of inf95; ⟨i, _, a, b, rfl⟩⟩
instance : TCell Tryz.prog 95 := ⟨⟨_, Tryz.underlying95, rfl⟩, let ⟨i, a, _, c, _⟩ := info_of inf95; ⟨i, a, c⟩⟩
instance : TSlice Tryz.prog 95 71 1 := ⟨let ⟨i, a, _, c, _⟩ := info_of inf71; ⟨i, Tryz.underlying95, a, c⟩⟩
instance : TElem Tryz.prog 95 71 1 8 [(.pointer none)] := ⟨let ⟨i, a, b, c, d⟩ := info_of inf71; ⟨i, _, Tryz.underlying95, a, c, d, b, rfl, rfl⟩⟩
instance : TZeroC Tryz.prog 96 [.nilFunc] := ⟨let ⟨i, a, b, _, _⟩ := info_of inf96; ⟨i, _, a, b, rfl⟩⟩
instance : TCell Tryz.prog 96 := ⟨⟨_, Tryz.underlying96, rfl⟩, let ⟨i, a, _, c, _⟩ := info_of inf96; ⟨i, a, c⟩⟩
instance : TZeroC Tryz.prog 97 [(.pointer none)] := ⟨let ⟨i, a, b, _, _⟩ := info_of inf97; ⟨i, _, a, b, rfl⟩⟩
instance : TCell Tryz.prog 97 := ⟨⟨_, Tryz.underlying97, rfl⟩, let ⟨i, a, _, c, _⟩ := info_of inf97; ⟨i, a, c⟩⟩
instance : TPtr Tryz.prog 97 := ⟨_, Tryz.underlying97⟩
instance : TZeroC Tryz.prog 98 [.nilFunc] := ⟨let ⟨i, a, b, _, _⟩ := info_of inf98; ⟨i, _, a, b, rfl⟩⟩
instance : TCell Tryz.prog 98 := ⟨⟨_, Tryz.underlying98, rfl⟩, let ⟨i, a, _, c, _⟩ := info_of inf98; ⟨i, a, c⟩⟩
instance : TZeroC Tryz.prog 99 [.nilFunc] := ⟨let ⟨i, a, b, _, _⟩ := info_of inf99; ⟨i, _, a, b, rfl⟩⟩
instance : TCell Tryz.prog 99 := ⟨⟨_, Tryz.underlying99, rfl⟩, let ⟨i, a, _, c, _⟩ := info_of inf99; ⟨i, a, c⟩⟩
instance : TZeroC Tryz.prog 100 [.nilFunc] := ⟨let ⟨i, a, b, _, _⟩ := info_of inf100; ⟨i, _, a, b, rfl⟩⟩
instance : TCell Tryz.prog 100 := ⟨⟨_, Tryz.underlying100, rfl⟩, let ⟨i, a, _, c, _⟩ := info_of inf100; ⟨i, a, c⟩⟩
instance : TZeroC Tryz.prog 101 [.nilFunc, (.bool false), (.int .u64 0), (.bool false)] := ⟨let ⟨i, a, b, _, _⟩ := info_of inf101; ⟨i, _, a, b, rfl⟩⟩
instance : TAgg Tryz.prog 101 4 := ⟨⟨_, Tryz.underlying101, rfl⟩, let ⟨i, a, _, c, _⟩ := info_of inf101; ⟨i, a, c⟩⟩
instance : TFld Tryz.prog 101 0 0 := ⟨let ⟨i, a, _, c, _⟩ := info_of inf23; ⟨_, _, i, Tryz.underlying101, rfl, rfl, a, by rw [c]; decide⟩⟩
instance : TFld Tryz.prog 101 1 1 := ⟨let ⟨i, a, _, c, _⟩ := info_of inf4; ⟨_, _, i, Tryz.underlying101, rfl, rfl, a, by rw [c]; decide⟩⟩
instance : TFld Tryz.prog 101 2 2 := ⟨let ⟨i, a, _, c, _⟩ := info_of inf39; ⟨_, _, i, Tryz.underlying101, rfl, rfl, a, by rw [c]; decide⟩⟩
instance : TFld Tryz.prog 101 3 3 := ⟨let ⟨i, a, _, c, _⟩ := info_of inf4; ⟨_, _, i, Tryz.underlying101, rfl, rfl, a, by rw [c]; decide⟩⟩
instance : TFldV Tryz.prog 101 0 0 := ⟨⟨_, _, _, Tryz.underlying101, rfl, rfl, Tryz.underlying23, rfl⟩⟩
instance : TFldV Tryz.prog 101 1 1 := ⟨⟨_, _, _, Tryz.underlying101, rfl, rfl, Tryz.underlying4, rfl⟩⟩
instance : TFldV Tryz.prog 101 2 2 := ⟨⟨_, _, _, Tryz.underlying101, rfl, rfl, Tryz.underlying39, rfl⟩⟩
instance : TFldV Tryz.prog 101 3 3 := ⟨⟨_, _, _, Tryz.underlying101, rfl, rfl, Tryz.underlying4, rfl⟩⟩
instance : TStruct Tryz.prog 101 [(0, 1), (1, 1), (2, 1), (3, 1)] [.nilFunc, (.bool false), (.int .u64 0), (.bool false)] := ⟨let ⟨i, a, b, _, _⟩ := info_of inf101; ⟨i, _, _, a, b, rfl, Tryz.underlying101, by kernel_rfl⟩⟩
instance : TZeroC Tryz.prog 102 [.nilFunc, (.bool false), (.int .u64 0), (.bool false)] := ⟨let ⟨i, a, b, _, _⟩ := info_of inf102; ⟨i, _, a, b, rfl⟩⟩
instance : TAgg Tryz.prog 102 4 := ⟨⟨_, Tryz.underlying102, rfl⟩, let ⟨i, a, _, c, _⟩ := info_of inf102; ⟨i, a, c⟩⟩
instance : TFld Tryz.prog 102 0 0 := ⟨let ⟨i, a, _, c, _⟩ := info_of inf23; ⟨_, _, i, Tryz.underlying102, rfl, rfl, a, by rw [c]; decide⟩⟩
instance : TFld Tryz.prog 102 1 1 := ⟨let ⟨i, a, _, c, _⟩ := info_of inf4; ⟨_, _, i, Tryz.underlying102, rfl, rfl, a, by rw [c]; decide⟩⟩
instance : TFld Tryz.prog 102 2 2 := ⟨let ⟨i, a, _, c, _⟩ := info_of inf39; ⟨_, _, i, Tryz.underlying102, rfl, rfl, a, by rw [c]; decide⟩⟩
instance : TFld Tryz.prog 102 3 3 := ⟨let ⟨i, a, _, c, _⟩ := info_of inf4; ⟨_, _, i, Tryz.underlying102, rfl, rfl, a, by rw [c]; decide⟩⟩
instance : TFldV Tryz.prog 102 0 0 := ⟨⟨_, _, _, Tryz.underlying102, rfl, rfl, Tryz.underlying23, rfl⟩⟩
instance : TFldV Tryz.prog 102 1 1 := ⟨⟨_, _, _, Tryz.underlying102, rfl, rfl, Tryz.underlying4, rfl⟩⟩
instance : TFldV Tryz.prog 102 2 2 := ⟨⟨_, _, _, Tryz.underlying102, rfl, rfl, Tryz.underlying39, rfl⟩⟩
instance : TFldV Tryz.prog 102 3 3 := ⟨⟨_, _, _, Tryz.underlying102, rfl, rfl, Tryz.underlying4, rfl⟩⟩
instance : TStruct Tryz.prog 102 [(0, 1), (1, 1), (2, 1), (3, 1)] [.nilFunc, (.bool false), (.int .u64 0), (.bool false)] := ⟨let ⟨i, a, b, _, _⟩ := info_of inf102; ⟨i, _, _, a, b, rfl, Tryz.underlying102, by kernel_rfl⟩⟩
instance : TZeroC Tryz.prog 103 [.nilFunc] := ⟨let ⟨i, a, b, _, _⟩ := info_of inf103; ⟨i, _, a, b, rfl⟩⟩
instance : TCell Tryz.prog 103 := ⟨⟨_, Tryz.underlying103, rfl⟩, let ⟨i, a, _, c, _⟩ := info_of inf103; ⟨i, a, c⟩⟩
instance : TZeroC Tryz.prog 104 [(.pointer none)] := ⟨let ⟨i, a, b, _, _⟩ := info_of inf104; ⟨i, _, a, b, rfl⟩⟩
instance : TCell Tryz.prog 104 := ⟨⟨_, Tryz.underlying104, rfl⟩, let ⟨i, a, _, c, _⟩ := info_of inf104; ⟨i, a, c⟩⟩
instance : TPtr Tryz.prog 104 := ⟨_, Tryz.underlying104⟩
instance : TZeroC Tryz.prog 106 [.nilFunc] := ⟨let ⟨i, a, b, _, _⟩ := info_of inf106; ⟨i, _, a, b, rfl⟩⟩
instance : TCell Tryz.prog 106 := ⟨⟨_, Tryz.underlying106, rfl⟩, let ⟨i, a, _, c, _⟩ := info_of inf106; ⟨i, a, c⟩⟩
instance : TZeroC Tryz.prog 107 [(.pointer none), (.int .i64 0), (.int .u64 0)] := ⟨let ⟨i, a, b, _, _⟩ := info_of inf107; ⟨i, _, a, b, rfl⟩⟩
instance : TAgg Tryz.prog 107 3 := ⟨⟨_, Tryz.underlying107, rfl⟩, let ⟨i, a, _, c, _⟩ := info_of inf107; ⟨i, a, c⟩⟩
instance : TFld Tryz.prog 107 0 0 := ⟨let ⟨i, a, _, c, _⟩ := info_of inf27; ⟨_, _, i, Tryz.underlying107, rfl, rfl, a, by rw [c]; decide⟩⟩
instance : TFld Tryz.prog 107 1 1 := ⟨let ⟨i, a, _, c, _⟩ := info_of inf3; ⟨_, _, i, Tryz.underlying107, rfl, rfl, a, by rw [c]; decide⟩⟩
instance : TFld Tryz.prog 107 2 2 := ⟨let ⟨i, a, _, c, _⟩ := info_of inf39; ⟨_, _, i, Tryz.underlying107, rfl, rfl, a, by rw [c]; decide⟩⟩
instance : TFldV Tryz.prog 107 0 0 := ⟨⟨_, _, _, Tryz.underlying107, rfl, rfl, Tryz.underlying27, rfl⟩⟩
instance : TFldV Tryz.prog 107 1 1 := ⟨⟨_, _, _, Tryz.underlying107, rfl, rfl, Tryz.underlying3, rfl⟩⟩
instance : TFldV Tryz.prog 107 2 2 := ⟨⟨_, _, _, Tryz.underlying107, rfl, rfl, Tryz.underlying39, rfl⟩⟩
instance : TStruct Tryz.prog 107 [(0, 1), (1, 1), (2, 1)] [(.pointer none), (.int .i64 0), (.int .u64 0)] := ⟨let ⟨i, a, b, _, _⟩ := info_of inf107; ⟨i, _, _, a, b, rfl, Tryz.underlying107, by kernel_rfl⟩⟩
instance : TZeroC Tryz.prog 108 [(.pointer none), (.int .i64 0), (.int .u64 0)] := ⟨let ⟨i, a, b, _, _⟩ := info_of inf108; ⟨i, _, a, b, rfl⟩⟩
instance : TAgg Tryz.prog 108 3 := ⟨⟨_, Tryz.underlying108, rfl⟩, let ⟨i, a, _, c, _⟩ := info_of inf108; ⟨i, a, c⟩⟩
instance : TFld Tryz.prog 108 0 0 := ⟨let ⟨i, a, _, c, _⟩ := info_of inf27; ⟨_, _, i, Tryz.underlying108, rfl, rfl, a, by rw [c]; decide⟩⟩
instance : TFld Tryz.prog 108 1 1 := ⟨let ⟨i, a, _, c, _⟩ := info_of inf3; ⟨_, _, i, Tryz.underlying108, rfl, rfl, a, by rw [c]; decide⟩⟩
instance : TFld Tryz.prog 108 2 2 := ⟨let ⟨i, a, _, c, _⟩ := info_of inf39; ⟨_, _, i, Tryz.underlying108, rfl, rfl, a, by rw [c]; decide⟩⟩
instance : TFldV Tryz.prog 108 0 0 := ⟨⟨_, _, _, Tryz.underlying108, rfl, rfl, Tryz.underlying27, rfl⟩⟩
instance : TFldV Tryz.prog 108 1 1 := ⟨⟨_, _, _, Tryz.underlying108, rfl, rfl, Tryz.underlying3, rfl⟩⟩
instance : TFldV Tryz.prog 108 2 2 := ⟨⟨_, _, _, Tryz.underlying108, rfl, rfl, Tryz.underlying39, rfl⟩⟩
instance : TStruct Tryz.prog 108 [(0, 1), (1, 1), (2, 1)] [(.pointer none), (.int .i64 0), (.int .u64 0)] := ⟨let ⟨i, a, b, _, _⟩ := info_of inf108; ⟨i, _, _, a, b, rfl, Tryz.underlying108, by kernel_rfl⟩⟩
instance : TZeroC Tryz.prog 109 [.nilFunc] := ⟨let ⟨i, a, b, _, _⟩ := info_of inf109; ⟨i, _, a, b, rfl⟩⟩
instance : TCell Tryz.prog 109 := ⟨⟨_, Tryz.underlying109, rfl⟩, let ⟨i, a, _, c, _⟩ := info_of inf109; ⟨i, a, c⟩⟩
instance : TZeroC Tryz.prog 110 [.nilFunc] := ⟨let ⟨i, a, b, _, _⟩ := info_of inf110; ⟨i, _, a, b, rfl⟩⟩
instance : TCell Tryz.prog 110 := ⟨⟨_, Tryz.underlying110, rfl⟩, let ⟨i, a, _, c, _⟩ := info_of inf110; ⟨i, a, c⟩⟩
instance : TZeroC Tryz.prog 111 [.nilFunc] := ⟨let ⟨i, a, b, _, _⟩ := info_of inf111; ⟨i, _, a, b, rfl⟩⟩
instance : TCell Tryz.prog 111 := ⟨⟨_, Tryz.underlying111, rfl⟩, let ⟨i, a, _, c, _⟩ := info_of inf111; ⟨i, a, c⟩⟩
instance : TZeroC Tryz.prog 112 [.nilFunc] := ⟨let ⟨i, a, b, _, _⟩ := info_of inf112; ⟨i, _, a, b, rfl⟩⟩
instance : TCell Tryz.prog 112 := ⟨⟨_, Tryz.underlying112, rfl⟩, let ⟨i, a, _, c, _⟩ := info_of inf112; ⟨i, a, c⟩⟩
instance : TZeroC Tryz.prog 113 [.nilFunc] := ⟨let ⟨i, a, b, _, _⟩ := info_of inf113; ⟨i, _, a, b, rfl⟩⟩
instance : TCell Tryz.prog 113 := ⟨⟨_, Tryz.underlying113, rfl⟩, let ⟨i, a, _, c, _⟩ := info_of inf113; ⟨i, a, c⟩⟩
instance : TZeroC Tryz.prog 114 [.nilFunc] := ⟨let ⟨i, a, b, _, _⟩ := info_of inf114; ⟨i, _, a, b, rfl⟩⟩
instance : TCell Tryz.prog 114 := ⟨⟨_, Tryz.underlying114, rfl⟩, let ⟨i, a, _, c, _⟩ := info_of inf114; ⟨i, a, c⟩⟩
instance : TZeroC Tryz.prog 115 [.nilFunc] := ⟨let ⟨i, a, b, _, _⟩ := info_of inf115; ⟨i, _, a, b, rfl⟩⟩
instance : TCell Tryz.prog 115 := ⟨⟨_, Tryz.underlying115, rfl⟩, let ⟨i, a, _, c, _⟩ := info_of inf115; ⟨i, a, c⟩⟩
instance : TZeroC Tryz.prog 116 [.nilFunc] := ⟨let ⟨i, a, b, _, _⟩ := info_of inf116; ⟨i, _, a, b, rfl⟩⟩
instance : TCell Tryz.prog 116 := ⟨⟨_, Tryz.underlying116, rfl⟩, let ⟨i, a, _, c, _⟩ := info_of inf116; ⟨i, a, c⟩⟩
instance : TZeroC Tryz.prog 117 [.nilFunc] := ⟨let ⟨i, a, b, _, _⟩ := info_of inf117; ⟨i, _, a, b, rfl⟩⟩
instance : TCell Tryz.prog 117 := ⟨⟨_, Tryz.underlying117, rfl⟩, let ⟨i, a, _, c, _⟩ := info_of inf117; ⟨i, a, c⟩⟩
instance : TZeroC Tryz.prog 119 [.nilFunc] := ⟨let ⟨i, a, b, _, _⟩ := info_of inf119; ⟨i, _, a, b, rfl⟩⟩
instance : TCell Tryz.prog 119 := ⟨⟨_, Tryz.underlying119, rfl⟩, let ⟨i, a, _, c, _⟩ := info_of inf119; ⟨i, a, c⟩⟩
instance : TZeroC Tryz.prog 121 [.nilFunc] := ⟨let ⟨i, a, b, _, _⟩ := info_of inf121; ⟨i, _, a, b, rfl⟩⟩
instance : TCell Tryz.prog 121 := ⟨⟨_, Tryz.underlying121, rfl⟩, let ⟨i, a, _, c, _⟩ := info_of inf121; ⟨i, a, c⟩⟩
instance : TZeroC Tryz.prog 122 [.nilFunc] := ⟨let ⟨i, a, b, _, _⟩ := info_of inf122; ⟨i, _, a, b, rfl⟩⟩
instance : TCell Tryz.prog 122 := ⟨⟨_, Tryz.underlying122, rfl⟩, let ⟨i, a, _, c, _⟩ := info_of inf122; ⟨i, a, c⟩⟩
instance : TZeroC Tryz.prog 123 [.nilFunc] := ⟨let ⟨i, a, b, _, _⟩ := info_of inf123; ⟨i, _, a, b, rfl⟩⟩
instance : TCell Tryz.prog 123 := ⟨⟨_, Tryz.underlying123, rfl⟩, let ⟨i, a, _, c, _⟩ := info_of inf123; ⟨i, a, c⟩⟩
instance : TZeroC Tryz.prog 124 [.nilFunc] := ⟨let ⟨i, a, b, _, _⟩ := info_of inf124; ⟨i, _, a, b, rfl⟩⟩
instance : TCell Tryz.prog 124 := ⟨⟨_, Tryz.underlying124, rfl⟩, let ⟨i, a, _, c, _⟩ := info_of inf124; ⟨i, a, c⟩⟩
instance : TZeroC Tryz.prog 125 [(.pointer none), .nilFunc, (.int .i64 0), (.int .u64 0), (.int .u64 0), (.int .u64 0)] := ⟨let ⟨i, a, b, _, _⟩ := info_of inf125; ⟨i, _, a, b, rfl⟩⟩
instance : TAgg Tryz.prog 125 6 := ⟨⟨_, Tryz.underlying125, rfl⟩, let ⟨i, a, _, c, _⟩ := info_of inf125; ⟨i, a, c⟩⟩
instance : TFld Tryz.prog 125 0 0 := ⟨let ⟨i, a, _, c, _⟩ := info_of inf71; ⟨_, _, i, Tryz.underlying125, rfl, rfl, a, by rw [c]; decide⟩⟩
instance : TFld Tryz.prog 125 1 1 := ⟨let ⟨i, a, _, c, _⟩ := info_of inf1; ⟨_, _, i, Tryz.underlying125, rfl, rfl, a, by rw [c]; decide⟩⟩
instance : TFld Tryz.prog 125 2 2 := ⟨let ⟨i, a, _, c, _⟩ := info_of inf3; ⟨_, _, i, Tryz.underlying125, rfl, rfl, a, by rw [c]; decide⟩⟩
instance : TFld Tryz.prog 125 3 3 := ⟨let ⟨i, a, _, c, _⟩ := info_of inf39; ⟨_, _, i, Tryz.underlying125, rfl, rfl, a, by rw [c]; decide⟩⟩
instance : TFld Tryz.prog 125 4 4 := ⟨let ⟨i, a, _, c, _⟩ := info_of inf39; ⟨_, _, i, Tryz.underlying125, rfl, rfl, a, by rw [c]; decide⟩⟩
instance : TFld Tryz.prog 125 5 5 := ⟨let ⟨i, a, _, c, _⟩ := info_of inf39; ⟨_, _, i, Tryz.underlying125, rfl, rfl, a, by rw [c]; decide⟩⟩
instance : TFldV Tryz.prog 125 0 0 := ⟨⟨_, _, _, Tryz.underlying125, rfl, rfl, Tryz.underlying71, rfl⟩⟩
instance : TFldV Tryz.prog 125 1 1 := ⟨⟨_, _, _, Tryz.underlying125, rfl, rfl, Tryz.underlying1, rfl⟩⟩
instance : TFldV Tryz.prog 125 2 2 := ⟨⟨_, _, _, Tryz.underlying125, rfl, rfl, Tryz.underlying3, rfl⟩⟩
instance : TFldV Tryz.prog 125 3 3 := ⟨⟨_, _, _, Tryz.underlying125, rfl, rfl, Tryz.underlying39, rfl⟩⟩
instance : TFldV Tryz.prog 125 4 4 := ⟨⟨_, _, _, Tryz.underlying125, rfl, rfl, Tryz.underlying39, rfl⟩⟩
instance : TFldV Tryz.prog 125 5 5 := ⟨⟨_, _, _, Tryz.underlying125, rfl, rfl, Tryz.underlying39, rfl⟩⟩
instance : TStruct Tryz.prog 125 [(0, 1), (1, 1), (2, 1), (3, 1), (4, 1), (5, 1)] [(.pointer none), .nilFunc, (.int .i64 0), (.int .u64 0), (.int .u64 0), (.int .u64 0)] := ⟨let ⟨i, a, b, _, _⟩ := info_of inf125; ⟨i, _, _, a, b, rfl, Tryz.underlying125, by kernel_rfl⟩⟩
instance : TZeroC Tryz.prog 126 [(.pointer none), .nilFunc, (.int .i64 0), (.int .u64 0), (.int .u64 0), (.int .u64 0)] := ⟨let ⟨i, a, b, _, _⟩ := info_of inf126; ⟨i, _, a, b, rfl⟩⟩
instance : TAgg Tryz.prog 126 6 := ⟨⟨_, Tryz.underlying126, rfl⟩, let ⟨i, a, _, c, _⟩ := info_of inf126; ⟨i, a, c⟩⟩
instance : TFld Tryz.prog 126 0 0 := ⟨let ⟨i, a, _, c, _⟩ := info_of inf71; ⟨_, _, i, Tryz.underlying126, rfl, rfl, a, by rw [c]; decide⟩⟩
instance : TFld Tryz.prog 126 1 1 := ⟨let ⟨i, a, _, c, _⟩ := info_of inf1; ⟨_, _, i, Tryz.underlying126, rfl, rfl, a, by rw [c]; decide⟩⟩
instance : TFld Tryz.prog 126 2 2 := ⟨let ⟨i, a, _, c, _⟩ := info_of inf3; ⟨_, _, i, Tryz.underlying126, rfl, rfl, a, by rw [c]; decide⟩⟩
instance : TFld Tryz.prog 126 3 3 := ⟨let ⟨i, a, _, c, _⟩ := info_of inf39; ⟨_, _, i, Tryz.underlying126, rfl, rfl, a, by rw [c]; decide⟩⟩
instance : TFld Tryz.prog 126 4 4 := ⟨let ⟨i, a, _, c, _⟩ := info_of inf39; ⟨_, _, i, Tryz.underlying126, rfl, rfl, a, by rw [c]; decide⟩⟩
instance : TFld Tryz.prog 126 5 5 := ⟨let ⟨i, a, _, c, _⟩ := info_of inf39; ⟨_, _, i, Tryz.underlying126, rfl, rfl, a, by rw [c]; decide⟩⟩
instance : TFldV Tryz.prog 126 0 0 := ⟨⟨_, _, _, Tryz.underlying126, rfl, rfl, Tryz.underlying71, rfl⟩⟩
instance : TFldV Tryz.prog 126 1 1 := ⟨⟨_, _, _, Tryz.underlying126, rfl, rfl, Tryz.underlying1, rfl⟩⟩
instance : TFldV Tryz.prog 126 2 2 := ⟨⟨_, _, _, Tryz.underlying126, rfl, rfl, Tryz.underlying3, rfl⟩⟩
instance : TFldV Tryz.prog 126 3 3 := ⟨⟨_, _, _, Tryz.underlying126, rfl, rfl, Tryz.underlying39, rfl⟩⟩
instance : TFldV Tryz.prog 126 4 4 := ⟨⟨_, _, _, Tryz.underlying126, rfl, rfl, Tryz.underlying39, rfl⟩⟩
instance : TFldV Tryz.prog 126 5 5 := ⟨⟨_, _, _, Tryz.underlying126, rfl, rfl, Tryz.underlying39, rfl⟩⟩
instance : TStruct Tryz.prog 126 [(0, 1), (1, 1), (2, 1), (3, 1), (4, 1), (5, 1)] [(.pointer none), .nilFunc, (.int .i64 0), (.int .u64 0), (.int .u64 0), (.int .u64 0)] := ⟨let ⟨i, a, b, _, _⟩ := info_of inf126; ⟨i, _, _, a, b, rfl, Tryz.underlying126, by kernel_rfl⟩⟩
instance : TZeroC Tryz.prog 127 [.nilFunc] := ⟨let ⟨i, a, b, _, _⟩ := info_of inf127; ⟨i, _, a, b, rfl⟩⟩
instance : TCell Tryz.prog 127 := ⟨⟨_, Tryz.underlying127, rfl⟩, let ⟨i, a, _, c, _⟩ := info_of inf127; ⟨i, a, c⟩⟩
instance : TZeroC Tryz.prog 128 [(.pointer none), (.pointer none), (.pointer none), (.string ByteArray.empty)] := ⟨let ⟨i, a, b, _, _⟩ := info_of inf128; ⟨i, _, a, b, rfl⟩⟩
instance : TAgg Tryz.prog 128 4 := ⟨⟨_, Tryz.underlying128, rfl⟩, let ⟨i, a, _, c, _⟩ := info_of inf128; ⟨i, a, c⟩⟩
instance : TFld Tryz.prog 128 3 3 := ⟨let ⟨i, a, _, c, _⟩ := info_of inf9; ⟨_, _, i, Tryz.underlying128, rfl, rfl, a, by rw [c]; decide⟩⟩
instance : TFldV Tryz.prog 128 3 3 := ⟨⟨_, _, _, Tryz.underlying128, rfl, rfl, Tryz.underlying9, rfl⟩⟩
instance : TZeroC Tryz.prog 130 [] := ⟨let ⟨i, a, b, _, _⟩ := info_of inf130; ⟨i, _, a, b, rfl⟩⟩
instance : TAgg Tryz.prog 130 0 := ⟨⟨_, Tryz.underlying130, rfl⟩, let ⟨i, a, _, c, _⟩ := info_of inf130; ⟨i, a, c⟩⟩
instance : TZeroC Tryz.prog 131 [] := ⟨let ⟨i, a, b, _, _⟩ := info_of inf131; ⟨i, _, a, b, rfl⟩⟩
instance : TAgg Tryz.prog 131 0 := ⟨⟨_, Tryz.underlying131, rfl⟩, let ⟨i, a, _, c, _⟩ := info_of inf131; ⟨i, a, c⟩⟩
instance : TFldA Tryz.prog 131 0 0 0 := ⟨let ⟨i, a, _, c, _⟩ := info_of inf130; ⟨_, _, _, i, Tryz.underlying131, rfl, rfl, Tryz.underlying130, rfl, a, c⟩⟩
instance : TStruct Tryz.prog 131 [(0, 0)] [] := ⟨let ⟨i, a, b, _, _⟩ := info_of inf131; ⟨i, _, _, a, b, rfl, Tryz.underlying131, by kernel_rfl⟩⟩
instance : TZeroC Tryz.prog 133 [(.int .u32 0)] := ⟨let ⟨i, a, b, _, _⟩ := info_of inf133; ⟨i, _, a, b, rfl⟩⟩
instance : TCell Tryz.prog 133 := ⟨⟨_, Tryz.underlying133, rfl⟩, let ⟨i, a, _, c, _⟩ := info_of inf133; ⟨i, a, c⟩⟩
instance : TInt Tryz.prog 133 .u32 := ⟨Tryz.underlying133⟩
instance : TZeroC Tryz.prog 136 [.nilFunc] := ⟨let ⟨i, a, b, _, _⟩ := info_of inf136; ⟨i, _, a, b, rfl⟩⟩
instance : TCell Tryz.prog 136 := ⟨⟨_, Tryz.underlying136, rfl⟩, let ⟨i, a, _, c, _⟩ := info_of inf136; ⟨i, a, c⟩⟩
instance : TZeroC Tryz.prog 137 [(.pointer none)] := ⟨let ⟨i, a, b, _, _⟩ := info_of inf137; ⟨i, _, a, b, rfl⟩⟩
instance : TCell Tryz.prog 137 := ⟨⟨_, Tryz.underlying137, rfl⟩, let ⟨i, a, _, c, _⟩ := info_of inf137; ⟨i, a, c⟩⟩
instance : TPtr Tryz.prog 137 := ⟨_, Tryz.underlying137⟩
instance : TZeroC Tryz.prog 140 [(.int .u64 0), (.int .u64 0), (.int .u32 0), (.int .u8 0), (.int .u8 0), (.int .u8 0), (.int .u8 0), .nilFunc, (.pointer none), (.int .i32 0), (.int .i32 0)] := ⟨let ⟨i, a, b, _, _⟩ := info_of inf140; ⟨i, _, a, b, rfl⟩⟩
instance : TAgg Tryz.prog 140 11 := ⟨⟨_, Tryz.underlying140, rfl⟩, let ⟨i, a, _, c, _⟩ := info_of inf140; ⟨i, a, c⟩⟩
instance : TFld Tryz.prog 140 0 0 := ⟨let ⟨i, a, _, c, _⟩ := info_of inf12; ⟨_, _, i, Tryz.underlying140, rfl, rfl, a, by rw [c]; decide⟩⟩
instance : TFld Tryz.prog 140 1 1 := ⟨let ⟨i, a, _, c, _⟩ := info_of inf12; ⟨_, _, i, Tryz.underlying140, rfl, rfl, a, by rw [c]; decide⟩⟩
instance : TFld Tryz.prog 140 2 2 := ⟨let ⟨i, a, _, c, _⟩ := info_of inf133; ⟨_, _, i, Tryz.underlying140, rfl, rfl, a, by rw [c]; decide⟩⟩
instance : TFld Tryz.prog 140 4 4 := ⟨let ⟨i, a, _, c, _⟩ := info_of inf5; ⟨_, _, i, Tryz.underlying140, rfl, rfl, a, by rw [c]; decide⟩⟩
instance : TFld Tryz.prog 140 5 5 := ⟨let ⟨i, a, _, c, _⟩ := info_of inf5; ⟨_, _, i, Tryz.underlying140, rfl, rfl, a, by rw [c]; decide⟩⟩
instance : TFld Tryz.prog 140 7 7 := ⟨let ⟨i, a, _, c, _⟩ := info_of inf136; ⟨_, _, i, Tryz.underlying140, rfl, rfl, a, by rw [c]; decide⟩⟩
instance : TFld Tryz.prog 140 8 8 := ⟨let ⟨i, a, _, c, _⟩ := info_of inf137; ⟨_, _, i, Tryz.underlying140, rfl, rfl, a, by rw [c]; decide⟩⟩
instance : TFldV Tryz.prog 140 0 0 := ⟨⟨_, _, _, Tryz.underlying140, rfl, rfl, Tryz.underlying12, rfl⟩⟩
instance : TFldV Tryz.prog 140 1 1 := ⟨⟨_, _, _, Tryz.underlying140, rfl, rfl, Tryz.underlying12, rfl⟩⟩
instance : TFldV Tryz.prog 140 2 2 := ⟨⟨_, _, _, Tryz.underlying140, rfl, rfl, Tryz.underlying133, rfl⟩⟩
instance : TFldV Tryz.prog 140 4 4 := ⟨⟨_, _, _, Tryz.underlying140, rfl, rfl, Tryz.underlying5, rfl⟩⟩
instance : TFldV Tryz.prog 140 5 5 := ⟨⟨_, _, _, Tryz.underlying140, rfl, rfl, Tryz.underlying5, rfl⟩⟩
instance : TFldV Tryz.prog 140 7 7 := ⟨⟨_, _, _, Tryz.underlying140, rfl, rfl, Tryz.underlying136, rfl⟩⟩
instance : TFldV Tryz.prog 140 8 8 := ⟨⟨_, _, _, Tryz.underlying140, rfl, rfl, Tryz.underlying137, rfl⟩⟩
instance : TZeroC Tryz.prog 142 [.nilFunc] := ⟨let ⟨i, a, b, _, _⟩ := info_of inf142; ⟨i, _, a, b, rfl⟩⟩
instance : TCell Tryz.prog 142 := ⟨⟨_, Tryz.underlying142, rfl⟩, let ⟨i, a, _, c, _⟩ := info_of inf142; ⟨i, a, c⟩⟩
instance : TZeroC Tryz.prog 143 [(.pointer none)] := ⟨let ⟨i, a, b, _, _⟩ := info_of inf143; ⟨i, _, a, b, rfl⟩⟩
instance : TCell Tryz.prog 143 := ⟨⟨_, Tryz.underlying143, rfl⟩, let ⟨i, a, _, c, _⟩ := info_of inf143; ⟨i, a, c⟩⟩
instance : TFunc Tryz.prog 2 := ⟨_, _, Tryz.func2, rfl, by decide⟩
instance : TFunc Tryz.prog 3 := ⟨_, _, Tryz.func3, rfl, by decide⟩
instance : TFunc Tryz.prog 4 := ⟨_, _, Tryz.func4, rfl, by decide⟩
instance : TFunc Tryz.prog 5 := ⟨_, _, Tryz.func5, rfl, by decide⟩
instance : TFunc Tryz.prog 6 := ⟨_, _, Tryz.func6, rfl, by decide⟩
instance : TFunc Tryz.prog 7 := ⟨_, _, Tryz.func7, rfl, by decide⟩
instance : TFunc Tryz.prog 8 := ⟨_, _, Tryz.func8, rfl, by decide⟩
instance : TFunc Tryz.prog 9 := ⟨_, _, Tryz.func9, rfl, by decide⟩
instance : TFunc Tryz.prog 10 := ⟨_, _, Tryz.func10, rfl, by decide⟩
instance : TFunc Tryz.prog 11 := ⟨_, _, Tryz.func11, rfl, by decide⟩
instance : TFunc Tryz.prog 12 := ⟨_, _, Tryz.func12, rfl, by decide⟩
instance : TFunc Tryz.prog 13 := ⟨_, _, Tryz.func13, rfl, by decide⟩
instance : TFunc Tryz.prog 14 := ⟨_, _, Tryz.func14, rfl, by decide⟩
instance : TFunc Tryz.prog 15 := ⟨_, _, Tryz.func15, rfl, by decide⟩
instance : TFunc Tryz.prog 16 := ⟨_, _, Tryz.func16, rfl, by decide⟩
instance : TFunc Tryz.prog 17 := ⟨_, _, Tryz.func17, rfl, by decide⟩
instance : TFunc Tryz.prog 18 := ⟨_, _, Tryz.func18, rfl, by decide⟩
instance : TFunc Tryz.prog 19 := ⟨_, _, Tryz.func19, rfl, by decide⟩
instance : TFunc Tryz.prog 20 := ⟨_, _, Tryz.func20, rfl, by decide⟩
instance : TFunc Tryz.prog 21 := ⟨_, _, Tryz.func21, rfl, by decide⟩
instance : TFunc Tryz.prog 22 := ⟨_, _, Tryz.func22, rfl, by decide⟩
instance : TFunc Tryz.prog 23 := ⟨_, _, Tryz.func23, rfl, by decide⟩
instance : TFunc Tryz.prog 24 := ⟨_, _, Tryz.func24, rfl, by decide⟩
instance : TFunc Tryz.prog 25 := ⟨_, _, Tryz.func25, rfl, by decide⟩
instance : TFunc Tryz.prog 26 := ⟨_, _, Tryz.func26, rfl, by decide⟩
instance : TFunc Tryz.prog 27 := ⟨_, _, Tryz.func27, rfl, by decide⟩
instance : TFunc Tryz.prog 28 := ⟨_, _, Tryz.func28, rfl, by decide⟩
instance : TFunc Tryz.prog 29 := ⟨_, _, Tryz.func29, rfl, by decide⟩
instance : TFunc Tryz.prog 30 := ⟨_, _, Tryz.func30, rfl, by decide⟩
instance : TFunc Tryz.prog 31 := ⟨_, _, Tryz.func31, rfl, by decide⟩
instance : TFunc Tryz.prog 32 := ⟨_, _, Tryz.func32, rfl, by decide⟩
instance : TFunc Tryz.prog 33 := ⟨_, _, Tryz.func33, rfl, by decide⟩
instance : TFunc Tryz.prog 34 := ⟨_, _, Tryz.func34, rfl, by decide⟩
instance : TFunc Tryz.prog 35 := ⟨_, _, Tryz.func35, rfl, by decide⟩
instance : TFunc Tryz.prog 36 := ⟨_, _, Tryz.func36, rfl, by decide⟩
instance : TFunc Tryz.prog 37 := ⟨_, _, Tryz.func37, rfl, by decide⟩
instance : TFunc Tryz.prog 38 := ⟨_, _, Tryz.func38, rfl, by decide⟩
instance : TFunc Tryz.prog 39 := ⟨_, _, Tryz.func39, rfl, by decide⟩
instance : TFunc Tryz.prog 40 := ⟨_, _, Tryz.func40, rfl, by decide⟩
instance : TFunc Tryz.prog 41 := ⟨_, _, Tryz.func41, rfl, by decide⟩
instance : TFunc Tryz.prog 42 := ⟨_, _, Tryz.func42, rfl, by decide⟩
instance : TFunc Tryz.prog 43 := ⟨_, _, Tryz.func43, rfl, by decide⟩
instance : TFunc Tryz.prog 44 := ⟨_, _, Tryz.func44, rfl, by decide⟩
instance : TFunc Tryz.prog 45 := ⟨_, _, Tryz.func45, rfl, by decide⟩
instance : TFunc Tryz.prog 46 := ⟨_, _, Tryz.func46, rfl, by decide⟩
instance : TFunc Tryz.prog 47 := ⟨_, _, Tryz.func47, rfl, by decide⟩
instance : TFunc Tryz.prog 48 := ⟨_, _, Tryz.func48, rfl, by decide⟩
instance : TFunc Tryz.prog 49 := ⟨_, _, Tryz.func49, rfl, by decide⟩
instance : TFunc Tryz.prog 50 := ⟨_, _, Tryz.func50, rfl, by decide⟩
instance : TFunc Tryz.prog 51 := ⟨_, _, Tryz.func51, rfl, by decide⟩
instance : TFunc Tryz.prog 52 := ⟨_, _, Tryz.func52, rfl, by decide⟩
instance : TFunc Tryz.prog 53 := ⟨_, _, Tryz.func53, rfl, by decide⟩
instance : TFunc Tryz.prog 54 := ⟨_, _, Tryz.func54, rfl, by decide⟩
instance : TFunc Tryz.prog 55 := ⟨_, _, Tryz.func55, rfl, by decide⟩
instance : TFunc Tryz.prog 56 := ⟨_, _, Tryz.func56, rfl, by decide⟩
instance : TFunc Tryz.prog 57 := ⟨_, _, Tryz.func57, rfl, by decide⟩
instance : TFunc Tryz.prog 58 := ⟨_, _, Tryz.func58, rfl, by decide⟩
instance : TFunc Tryz.prog 59 := ⟨_, _, Tryz.func59, rfl, by decide⟩
instance : TFunc Tryz.prog 60 := ⟨_, _, Tryz.func60, rfl, by decide⟩
instance : TFunc Tryz.prog 61 := ⟨_, _, Tryz.func61, rfl, by decide⟩
instance : TFunc Tryz.prog 62 := ⟨_, _, Tryz.func62, rfl, by decide⟩
instance : TFunc Tryz.prog 63 := ⟨_, _, Tryz.func63, rfl, by decide⟩
instance : TFunc Tryz.prog 64 := ⟨_, _, Tryz.func64, rfl, by decide⟩
instance : TFunc Tryz.prog 65 := ⟨_, _, Tryz.func65, rfl, by decide⟩
instance : TFunc Tryz.prog 66 := ⟨_, _, Tryz.func66, rfl, by decide⟩
instance : TFunc Tryz.prog 67 := ⟨_, _, Tryz.func67, rfl, by decide⟩
instance : TFunc Tryz.prog 68 := ⟨_, _, Tryz.func68, rfl, by decide⟩
instance : TFunc Tryz.prog 69 := ⟨_, _, Tryz.func69, rfl, by decide⟩
instance : TFunc Tryz.prog 70 := ⟨_, _, Tryz.func70, rfl, by decide⟩
instance : TFunc Tryz.prog 71 := ⟨_, _, Tryz.func71, rfl, by decide⟩
instance : TFunc Tryz.prog 72 := ⟨_, _, Tryz.func72, rfl, by decide⟩
instance : TFunc Tryz.prog 73 := ⟨_, _, Tryz.func73, rfl, by decide⟩
instance : TFunc Tryz.prog 74 := ⟨_, _, Tryz.func74, rfl, by decide⟩
instance : TFunc Tryz.prog 75 := ⟨_, _, Tryz.func75, rfl, by decide⟩
instance : TFunc Tryz.prog 76 := ⟨_, _, Tryz.func76, rfl, by decide⟩
instance : TFunc Tryz.prog 77 := ⟨_, _, Tryz.func77, rfl, by decide⟩
instance : TFunc Tryz.prog 78 := ⟨_, _, Tryz.func78, rfl, by decide⟩
instance : TFunc Tryz.prog 79 := ⟨_, _, Tryz.func79, rfl, by decide⟩
instance : TFunc Tryz.prog 80 := ⟨_, _, Tryz.func80, rfl, by decide⟩
instance : TFunc Tryz.prog 81 := ⟨_, _, Tryz.func81, rfl, by decide⟩
instance : TFunc Tryz.prog 82 := ⟨_, _, Tryz.func82, rfl, by decide⟩
instance : TFunc Tryz.prog 83 := ⟨_, _, Tryz.func83, rfl, by decide⟩
instance : TFunc Tryz.prog 84 := ⟨_, _, Tryz.func84, rfl, by decide⟩
instance : TFunc Tryz.prog 85 := ⟨_, _, Tryz.func85, rfl, by decide⟩
instance : TFunc Tryz.prog 86 := ⟨_, _, Tryz.func86, rfl, by decide⟩
instance : TFunc Tryz.prog 87 := ⟨_, _, Tryz.func87, rfl, by decide⟩
instance : TFunc Tryz.prog 88 := ⟨_, _, Tryz.func88, rfl, by decide⟩
instance : TFunc Tryz.prog 89 := ⟨_, _, Tryz.func89, rfl, by decide⟩
instance : TFunc Tryz.prog 90 := ⟨_, _, Tryz.func90, rfl, by decide⟩
instance : TFunc Tryz.prog 91 := ⟨_, _, Tryz.func91, rfl, by decide⟩
instance : TFunc Tryz.prog 92 := ⟨_, _, Tryz.func92, rfl, by decide⟩
instance : TFunc Tryz.prog 93 := ⟨_, _, Tryz.func93, rfl, by decide⟩
instance : TFunc Tryz.prog 94 := ⟨_, _, Tryz.func94, rfl, by decide⟩
instance : TFunc Tryz.prog 95 := ⟨_, _, Tryz.func95, rfl, by decide⟩
instance : TFunc Tryz.prog 96 := ⟨_, _, Tryz.func96, rfl, by decide⟩
instance : TFunc Tryz.prog 97 := ⟨_, _, Tryz.func97, rfl, by decide⟩
instance : TFunc Tryz.prog 98 := ⟨_, _, Tryz.func98, rfl, by decide⟩
instance : TFunc Tryz.prog 99 := ⟨_, _, Tryz.func99, rfl, by decide⟩
instance : TFunc Tryz.prog 100 := ⟨_, _, Tryz.func100, rfl, by decide⟩
instance : TFunc Tryz.prog 101 := ⟨_, _, Tryz.func101, rfl, by decide⟩
instance : TFunc Tryz.prog 102 := ⟨_, _, Tryz.func102, rfl, by decide⟩
instance : TFunc Tryz.prog 103 := ⟨_, _, Tryz.func103, rfl, by decide⟩
instance : TFunc Tryz.prog 104 := ⟨_, _, Tryz.func104, rfl, by decide⟩
instance : TFunc Tryz.prog 105 := ⟨_, _, Tryz.func105, rfl, by decide⟩
instance : TFunc Tryz.prog 106 := ⟨_, _, Tryz.func106, rfl, by decide⟩
instance : TFunc Tryz.prog 107 := ⟨_, _, Tryz.func107, rfl, by decide⟩
instance : TFunc Tryz.prog 108 := ⟨_, _, Tryz.func108, rfl, by decide⟩
instance : TFunc Tryz.prog 109 := ⟨_, _, Tryz.func109, rfl, by decide⟩
instance : TFunc Tryz.prog 110 := ⟨_, _, Tryz.func110, rfl, by decide⟩
instance : TFunc Tryz.prog 111 := ⟨_, _, Tryz.func111, rfl, by decide⟩
instance : TFunc Tryz.prog 112 := ⟨_, _, Tryz.func112, rfl, by decide⟩
instance : TFunc Tryz.prog 113 := ⟨_, _, Tryz.func113, rfl, by decide⟩
instance : TFunc Tryz.prog 114 := ⟨_, _, Tryz.func114, rfl, by decide⟩
instance : TFunc Tryz.prog 115 := ⟨_, _, Tryz.func115, rfl, by decide⟩
instance : TFunc Tryz.prog 133 := ⟨_, _, Tryz.func133, rfl, by decide⟩
instance : TFunc Tryz.prog 135 := ⟨_, _, Tryz.func135, rfl, by decide⟩
instance : TFunc Tryz.prog 136 := ⟨_, _, Tryz.func136, rfl, by decide⟩
theorem mixed : Tryz.prog.follows .mixedOrders = true := by kernel_rfl
end Go.Proofs.YtkpgcdhepfgfaaaGreat.L
