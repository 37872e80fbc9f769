/-
  Facts on the program's types and functions, by program. Own work.
-/
import Derived.Test.YtcglaiacohkaeaaDoorErr
import Derived.Test.YtcglaiacohkaeaaDoorChecked
import Derived.KernelRfl
set_option linter.unusedSimpArgs false
set_option linter.unusedVariables false
namespace Go.Proofs.YtcglaiacohkaeaaDoor.L
open Go.L
theorem info_of {P : Program} {t : TypeId} {z : Value} {s b : Nat} (h : (P.info? t).map (fun i => (i.zero, i.size, i.bytes)) = some (some z, s, b)) : ∃ i, P.info? t = some i ∧ i.zero = some z ∧ i.size = s ∧ i.bytes = b := by
  cases hi : P.info? t with
  | none => rw [hi] at h; cases h
  | some i => rw [hi] at h; simp only [Option.map_some, Option.some.injEq, Prod.mk.injEq] at h; exact ⟨i, rfl, h.1, h.2.1, h.2.2⟩
theorem inf1 : (Tryd.prog.info? 1).map (fun i => (i.zero, i.size, i.bytes)) = some (some .nilFunc, 1, 8) := by kernel_rfl
theorem inf2 : (Tryd.prog.info? 2).map (fun i => (i.zero, i.size, i.bytes)) = some (some (.int .i64 0), 1, 8) := by kernel_rfl
theorem inf3 : (Tryd.prog.info? 3).map (fun i => (i.zero, i.size, i.bytes)) = some (some (.int .i64 0), 1, 8) := by kernel_rfl
theorem inf4 : (Tryd.prog.info? 4).map (fun i => (i.zero, i.size, i.bytes)) = some (some (.bool false), 1, 1) := by kernel_rfl
theorem inf5 : (Tryd.prog.info? 5).map (fun i => (i.zero, i.size, i.bytes)) = some (some (.int .u8 0), 1, 1) := by kernel_rfl
theorem inf7 : (Tryd.prog.info? 7).map (fun i => (i.zero, i.size, i.bytes)) = some (some (.agg #[(.int .i64 0), (.int .i64 0), (.bool false), (.int .u8 0)]), 4, 24) := by kernel_rfl
theorem inf9 : (Tryd.prog.info? 9).map (fun i => (i.zero, i.size, i.bytes)) = some (some (.string ByteArray.empty), 1, 16) := by kernel_rfl
theorem inf12 : (Tryd.prog.info? 12).map (fun i => (i.zero, i.size, i.bytes)) = some (some (.int .u64 0), 1, 8) := by kernel_rfl
theorem inf13 : (Tryd.prog.info? 13).map (fun i => (i.zero, i.size, i.bytes)) = some (some (.agg #[(.string ByteArray.empty), (.int .u64 0)]), 2, 24) := by kernel_rfl
theorem inf18 : (Tryd.prog.info? 18).map (fun i => (i.zero, i.size, i.bytes)) = some (some (.agg #[(.pointer none)]), 1, 8) := by kernel_rfl
theorem inf20 : (Tryd.prog.info? 20).map (fun i => (i.zero, i.size, i.bytes)) = some (some .nilIface, 1, 16) := by kernel_rfl
theorem inf21 : (Tryd.prog.info? 21).map (fun i => (i.zero, i.size, i.bytes)) = some (some (.int .i32 0), 1, 4) := by kernel_rfl
theorem inf22 : (Tryd.prog.info? 22).map (fun i => (i.zero, i.size, i.bytes)) = some (some (.agg #[(.int .i64 0), (.int .i64 0), (.int .i64 0), (.string ByteArray.empty), (.int .i64 0)]), 5, 48) := by kernel_rfl
theorem inf23 : (Tryd.prog.info? 23).map (fun i => (i.zero, i.size, i.bytes)) = some (some (.agg #[(.int .i64 0), (.int .i64 0), (.int .i64 0), (.string ByteArray.empty), (.int .i64 0)]), 5, 48) := by kernel_rfl
theorem inf24 : (Tryd.prog.info? 24).map (fun i => (i.zero, i.size, i.bytes)) = some (some .nilFunc, 1, 8) := by kernel_rfl
theorem inf25 : (Tryd.prog.info? 25).map (fun i => (i.zero, i.size, i.bytes)) = some (some (.int .i64 0), 1, 8) := by kernel_rfl
theorem inf27 : (Tryd.prog.info? 27).map (fun i => (i.zero, i.size, i.bytes)) = some (some .nilFunc, 1, 8) := by kernel_rfl
theorem inf29 : (Tryd.prog.info? 29).map (fun i => (i.zero, i.size, i.bytes)) = some (some .nilFunc, 1, 8) := by kernel_rfl
theorem inf31 : (Tryd.prog.info? 31).map (fun i => (i.zero, i.size, i.bytes)) = some (some .nilFunc, 1, 8) := by kernel_rfl
theorem inf33 : (Tryd.prog.info? 33).map (fun i => (i.zero, i.size, i.bytes)) = some (some .nilFunc, 1, 8) := by kernel_rfl
theorem inf34 : (Tryd.prog.info? 34).map (fun i => (i.zero, i.size, i.bytes)) = some (some .nilFunc, 1, 8) := by kernel_rfl
theorem inf35 : (Tryd.prog.info? 35).map (fun i => (i.zero, i.size, i.bytes)) = some (some (.int .u64 0), 1, 8) := by kernel_rfl
theorem inf36 : (Tryd.prog.info? 36).map (fun i => (i.zero, i.size, i.bytes)) = some (some (.agg #[(.int .i64 0), (.int .i64 0), (.int .u64 0), (.int .i64 0), (.int .i64 0), (.string ByteArray.empty), (.int .i64 0), (.int .i64 0), (.bool false)]), 9, 80) := by kernel_rfl
theorem inf37 : (Tryd.prog.info? 37).map (fun i => (i.zero, i.size, i.bytes)) = some (some (.agg #[(.int .i64 0), (.int .i64 0), (.int .u64 0), (.int .i64 0), (.int .i64 0), (.string ByteArray.empty), (.int .i64 0), (.int .i64 0), (.bool false)]), 9, 80) := by kernel_rfl
theorem inf38 : (Tryd.prog.info? 38).map (fun i => (i.zero, i.size, i.bytes)) = some (some .nilFunc, 1, 8) := by kernel_rfl
theorem inf39 : (Tryd.prog.info? 39).map (fun i => (i.zero, i.size, i.bytes)) = some (some .nilFunc, 1, 8) := by kernel_rfl
theorem inf41 : (Tryd.prog.info? 41).map (fun i => (i.zero, i.size, i.bytes)) = some (some .nilFunc, 1, 8) := by kernel_rfl
theorem inf43 : (Tryd.prog.info? 43).map (fun i => (i.zero, i.size, i.bytes)) = some (some .nilFunc, 1, 8) := by kernel_rfl
theorem inf44 : (Tryd.prog.info? 44).map (fun i => (i.zero, i.size, i.bytes)) = some (some .nilFunc, 1, 8) := by kernel_rfl
theorem inf45 : (Tryd.prog.info? 45).map (fun i => (i.zero, i.size, i.bytes)) = some (some (.slice none 0 0), 1, 24) := by kernel_rfl
theorem inf47 : (Tryd.prog.info? 47).map (fun i => (i.zero, i.size, i.bytes)) = some (some .nilFunc, 1, 8) := by kernel_rfl
theorem inf49 : (Tryd.prog.info? 49).map (fun i => (i.zero, i.size, i.bytes)) = some (some .nilFunc, 1, 8) := by kernel_rfl
theorem inf51 : (Tryd.prog.info? 51).map (fun i => (i.zero, i.size, i.bytes)) = some (some .nilFunc, 1, 8) := by kernel_rfl
theorem inf53 : (Tryd.prog.info? 53).map (fun i => (i.zero, i.size, i.bytes)) = some (some .nilFunc, 1, 8) := by kernel_rfl
theorem inf54 : (Tryd.prog.info? 54).map (fun i => (i.zero, i.size, i.bytes)) = some (some .nilFunc, 1, 8) := by kernel_rfl
theorem inf55 : (Tryd.prog.info? 55).map (fun i => (i.zero, i.size, i.bytes)) = some (some .nilFunc, 1, 8) := by kernel_rfl
theorem inf56 : (Tryd.prog.info? 56).map (fun i => (i.zero, i.size, i.bytes)) = some (some .nilFunc, 1, 8) := by kernel_rfl
theorem inf57 : (Tryd.prog.info? 57).map (fun i => (i.zero, i.size, i.bytes)) = some (some .nilFunc, 1, 8) := by kernel_rfl
theorem inf58 : (Tryd.prog.info? 58).map (fun i => (i.zero, i.size, i.bytes)) = some (some .nilFunc, 1, 8) := by kernel_rfl
theorem inf60 : (Tryd.prog.info? 60).map (fun i => (i.zero, i.size, i.bytes)) = some (some .nilFunc, 1, 8) := by kernel_rfl
theorem inf61 : (Tryd.prog.info? 61).map (fun i => (i.zero, i.size, i.bytes)) = some (some .nilFunc, 1, 8) := by kernel_rfl
theorem inf62 : (Tryd.prog.info? 62).map (fun i => (i.zero, i.size, i.bytes)) = some (some (.pointer none), 1, 8) := by kernel_rfl
theorem inf63 : (Tryd.prog.info? 63).map (fun i => (i.zero, i.size, i.bytes)) = some (some (.slice none 0 0), 1, 24) := by kernel_rfl
theorem inf64 : (Tryd.prog.info? 64).map (fun i => (i.zero, i.size, i.bytes)) = some (some .nilFunc, 1, 8) := by kernel_rfl
theorem inf65 : (Tryd.prog.info? 65).map (fun i => (i.zero, i.size, i.bytes)) = some (some (.agg #[(.slice none 0 0), (.bool false)]), 2, 32) := by kernel_rfl
theorem inf66 : (Tryd.prog.info? 66).map (fun i => (i.zero, i.size, i.bytes)) = some (some (.agg #[(.slice none 0 0), (.bool false)]), 2, 32) := by kernel_rfl
theorem inf67 : (Tryd.prog.info? 67).map (fun i => (i.zero, i.size, i.bytes)) = some (some .nilFunc, 1, 8) := by kernel_rfl
theorem inf68 : (Tryd.prog.info? 68).map (fun i => (i.zero, i.size, i.bytes)) = some (some .nilFunc, 1, 8) := by kernel_rfl
theorem inf69 : (Tryd.prog.info? 69).map (fun i => (i.zero, i.size, i.bytes)) = some (some .nilFunc, 1, 8) := by kernel_rfl
theorem inf70 : (Tryd.prog.info? 70).map (fun i => (i.zero, i.size, i.bytes)) = some (some .nilFunc, 1, 8) := by kernel_rfl
theorem inf71 : (Tryd.prog.info? 71).map (fun i => (i.zero, i.size, i.bytes)) = some (some .nilFunc, 1, 8) := by kernel_rfl
theorem inf73 : (Tryd.prog.info? 73).map (fun i => (i.zero, i.size, i.bytes)) = some (some .nilFunc, 1, 8) := by kernel_rfl
theorem inf74 : (Tryd.prog.info? 74).map (fun i => (i.zero, i.size, i.bytes)) = some (some (.agg #[(.string ByteArray.empty), (.string ByteArray.empty), (.string ByteArray.empty), (.string ByteArray.empty), (.string ByteArray.empty), (.string ByteArray.empty), (.string ByteArray.empty), (.string ByteArray.empty), (.string ByteArray.empty), (.string ByteArray.empty), (.string ByteArray.empty), (.string ByteArray.empty), (.string ByteArray.empty), (.string ByteArray.empty), (.string ByteArray.empty), (.string ByteArray.empty)]), 16, 256) := by kernel_rfl
theorem inf75 : (Tryd.prog.info? 75).map (fun i => (i.zero, i.size, i.bytes)) = some (some .nilFunc, 1, 8) := by kernel_rfl
theorem inf76 : (Tryd.prog.info? 76).map (fun i => (i.zero, i.size, i.bytes)) = some (some (.slice none 0 0), 1, 24) := by kernel_rfl
theorem inf77 : (Tryd.prog.info? 77).map (fun i => (i.zero, i.size, i.bytes)) = some (some .nilFunc, 1, 8) := by kernel_rfl
theorem inf78 : (Tryd.prog.info? 78).map (fun i => (i.zero, i.size, i.bytes)) = some (some .nilFunc, 1, 8) := by kernel_rfl
theorem inf79 : (Tryd.prog.info? 79).map (fun i => (i.zero, i.size, i.bytes)) = some (some .nilFunc, 1, 8) := by kernel_rfl
theorem inf80 : (Tryd.prog.info? 80).map (fun i => (i.zero, i.size, i.bytes)) = some (some .nilFunc, 1, 8) := by kernel_rfl
theorem inf81 : (Tryd.prog.info? 81).map (fun i => (i.zero, i.size, i.bytes)) = some (some .nilFunc, 1, 8) := by kernel_rfl
theorem inf82 : (Tryd.prog.info? 82).map (fun i => (i.zero, i.size, i.bytes)) = some (some .nilFunc, 1, 8) := by kernel_rfl
theorem inf83 : (Tryd.prog.info? 83).map (fun i => (i.zero, i.size, i.bytes)) = some (some (.pointer none), 1, 8) := by kernel_rfl
theorem inf84 : (Tryd.prog.info? 84).map (fun i => (i.zero, i.size, i.bytes)) = some (some .nilFunc, 1, 8) := by kernel_rfl
theorem inf85 : (Tryd.prog.info? 85).map (fun i => (i.zero, i.size, i.bytes)) = some (some (.pointer none), 1, 8) := by kernel_rfl
theorem inf86 : (Tryd.prog.info? 86).map (fun i => (i.zero, i.size, i.bytes)) = some (some (.slice none 0 0), 1, 24) := by kernel_rfl
theorem inf87 : (Tryd.prog.info? 87).map (fun i => (i.zero, i.size, i.bytes)) = some (some (.agg #[(.pointer none), (.slice none 0 0)]), 2, 32) := by kernel_rfl
theorem inf88 : (Tryd.prog.info? 88).map (fun i => (i.zero, i.size, i.bytes)) = some (some (.agg #[(.pointer none), (.slice none 0 0)]), 2, 32) := by kernel_rfl
theorem inf89 : (Tryd.prog.info? 89).map (fun i => (i.zero, i.size, i.bytes)) = some (some .nilIface, 1, 16) := by kernel_rfl
theorem inf90 : (Tryd.prog.info? 90).map (fun i => (i.zero, i.size, i.bytes)) = some (some .nilIface, 1, 16) := by kernel_rfl
theorem inf92 : (Tryd.prog.info? 92).map (fun i => (i.zero, i.size, i.bytes)) = some (some .nilFunc, 1, 8) := by kernel_rfl
theorem inf93 : (Tryd.prog.info? 93).map (fun i => (i.zero, i.size, i.bytes)) = some (some .nilFunc, 1, 8) := by kernel_rfl
theorem inf94 : (Tryd.prog.info? 94).map (fun i => (i.zero, i.size, i.bytes)) = some (some .nilFunc, 1, 8) := by kernel_rfl
theorem inf95 : (Tryd.prog.info? 95).map (fun i => (i.zero, i.size, i.bytes)) = some (some .nilFunc, 1, 8) := by kernel_rfl
theorem inf96 : (Tryd.prog.info? 96).map (fun i => (i.zero, i.size, i.bytes)) = some (some (.pointer none), 1, 8) := by kernel_rfl
theorem inf97 : (Tryd.prog.info? 97).map (fun i => (i.zero, i.size, i.bytes)) = some (some .nilFunc, 1, 8) := by kernel_rfl
theorem inf98 : (Tryd.prog.info? 98).map (fun i => (i.zero, i.size, i.bytes)) = some (some .nilFunc, 1, 8) := by kernel_rfl
theorem inf99 : (Tryd.prog.info? 99).map (fun i => (i.zero, i.size, i.bytes)) = some (some .nilFunc, 1, 8) := by kernel_rfl
theorem inf100 : (Tryd.prog.info? 100).map (fun i => (i.zero, i.size, i.bytes)) = some (some .nilFunc, 1, 8) := by kernel_rfl
theorem inf101 : (Tryd.prog.info? 101).map (fun i => (i.zero, i.size, i.bytes)) = some (some .nilFunc, 1, 8) := by kernel_rfl
theorem inf102 : (Tryd.prog.info? 102).map (fun i => (i.zero, i.size, i.bytes)) = some (some .nilFunc, 1, 8) := by kernel_rfl
theorem inf103 : (Tryd.prog.info? 103).map (fun i => (i.zero, i.size, i.bytes)) = some (some (.agg #[(.int .u8 0), (.int .u8 0), (.int .u8 0), (.int .u8 0), (.int .u8 0), (.int .u8 0), (.int .u8 0), (.int .u8 0), (.int .u8 0), (.int .u8 0), (.int .u8 0), (.int .u8 0), (.int .u8 0), (.int .u8 0), (.int .u8 0), (.int .u8 0), (.int .u8 0), (.int .u8 0), (.int .u8 0), (.int .u8 0), (.int .u8 0), (.int .u8 0), (.int .u8 0), (.int .u8 0)]), 24, 24) := by kernel_rfl
theorem inf104 : (Tryd.prog.info? 104).map (fun i => (i.zero, i.size, i.bytes)) = some (some .nilFunc, 1, 8) := by kernel_rfl
theorem inf105 : (Tryd.prog.info? 105).map (fun i => (i.zero, i.size, i.bytes)) = some (some .nilFunc, 1, 8) := by kernel_rfl
theorem inf107 : (Tryd.prog.info? 107).map (fun i => (i.zero, i.size, i.bytes)) = some (some .nilFunc, 1, 8) := by kernel_rfl
theorem inf108 : (Tryd.prog.info? 108).map (fun i => (i.zero, i.size, i.bytes)) = some (some .nilFunc, 1, 8) := by kernel_rfl
theorem inf109 : (Tryd.prog.info? 109).map (fun i => (i.zero, i.size, i.bytes)) = some (some (.pointer none), 1, 8) := by kernel_rfl
theorem inf110 : (Tryd.prog.info? 110).map (fun i => (i.zero, i.size, i.bytes)) = some (some .nilFunc, 1, 8) := by kernel_rfl
theorem inf111 : (Tryd.prog.info? 111).map (fun i => (i.zero, i.size, i.bytes)) = some (some .nilFunc, 1, 8) := by kernel_rfl
theorem inf113 : (Tryd.prog.info? 113).map (fun i => (i.zero, i.size, i.bytes)) = some (some .nilFunc, 1, 8) := by kernel_rfl
theorem inf114 : (Tryd.prog.info? 114).map (fun i => (i.zero, i.size, i.bytes)) = some (some .nilFunc, 1, 8) := by kernel_rfl
theorem inf115 : (Tryd.prog.info? 115).map (fun i => (i.zero, i.size, i.bytes)) = some (some (.int .i64 0), 1, 8) := by kernel_rfl
theorem inf117 : (Tryd.prog.info? 117).map (fun i => (i.zero, i.size, i.bytes)) = some (some .nilFunc, 1, 8) := by kernel_rfl
theorem inf118 : (Tryd.prog.info? 118).map (fun i => (i.zero, i.size, i.bytes)) = some (some (.pointer none), 1, 8) := by kernel_rfl
theorem inf119 : (Tryd.prog.info? 119).map (fun i => (i.zero, i.size, i.bytes)) = some (some .nilFunc, 1, 8) := by kernel_rfl
theorem inf120 : (Tryd.prog.info? 120).map (fun i => (i.zero, i.size, i.bytes)) = some (some .nilFunc, 1, 8) := by kernel_rfl
theorem inf121 : (Tryd.prog.info? 121).map (fun i => (i.zero, i.size, i.bytes)) = some (some .nilFunc, 1, 8) := by kernel_rfl
theorem inf122 : (Tryd.prog.info? 122).map (fun i => (i.zero, i.size, i.bytes)) = some (some .nilFunc, 1, 8) := by kernel_rfl
theorem inf123 : (Tryd.prog.info? 123).map (fun i => (i.zero, i.size, i.bytes)) = some (some (.agg #[(.int .u64 0), (.int .u64 0), (.int .u64 0), (.int .u64 0), (.int .u64 0), (.int .u64 0), (.int .u64 0), (.int .u64 0), (.int .u64 0), (.int .u64 0), (.int .u64 0), (.int .u64 0), (.int .u64 0), (.int .u64 0), (.int .u64 0), (.int .u64 0), (.int .u64 0), (.int .u64 0), (.int .u64 0), (.int .u64 0)]), 20, 160) := by kernel_rfl
theorem inf124 : (Tryd.prog.info? 124).map (fun i => (i.zero, i.size, i.bytes)) = some (some (.int .u32 0), 1, 4) := by kernel_rfl
theorem inf125 : (Tryd.prog.info? 125).map (fun i => (i.zero, i.size, i.bytes)) = some (some (.agg #[(.int .u8 0), (.int .u8 0), (.int .u8 0), (.int .u8 0), (.int .u8 0), (.int .u8 0), (.int .u8 0), (.int .u8 0), (.int .u8 0), (.int .u8 0), (.int .u8 0), (.int .u8 0), (.int .u8 0), (.int .u8 0), (.int .u8 0), (.int .u8 0), (.int .u8 0), (.int .u8 0), (.int .u8 0), (.int .u8 0), (.int .u8 0), (.int .u8 0), (.int .u8 0), (.int .u8 0), (.int .u8 0), (.int .u8 0), (.int .u8 0), (.int .u8 0), (.int .u8 0), (.int .u8 0), (.int .u8 0), (.int .u8 0), (.int .u8 0), (.int .u8 0), (.int .u8 0), (.int .u8 0), (.int .u8 0), (.int .u8 0), (.int .u8 0), (.int .u8 0), (.int .u8 0), (.int .u8 0), (.int .u8 0), (.int .u8 0), (.int .u8 0), (.int .u8 0), (.int .u8 0), (.int .u8 0), (.int .u8 0), (.int .u8 0), (.int .u8 0), (.int .u8 0), (.int .u8 0), (.int .u8 0), (.int .u8 0), (.int .u8 0), (.int .u8 0), (.int .u8 0), (.int .u8 0), (.int .u8 0), (.int .u8 0), (.int .u8 0), (.int .u8 0), (.int .u8 0), (.int .u8 0)]), 65, 65) := by kernel_rfl
theorem inf126 : (Tryd.prog.info? 126).map (fun i => (i.zero, i.size, i.bytes)) = some (some .nilFunc, 1, 8) := by kernel_rfl
theorem inf127 : (Tryd.prog.info? 127).map (fun i => (i.zero, i.size, i.bytes)) = some (some (.int .u64 0), 1, 8) := by kernel_rfl
theorem inf128 : (Tryd.prog.info? 128).map (fun i => (i.zero, i.size, i.bytes)) = some (some .nilFunc, 1, 8) := by kernel_rfl
theorem inf129 : (Tryd.prog.info? 129).map (fun i => (i.zero, i.size, i.bytes)) = some (some .nilFunc, 1, 8) := by kernel_rfl
theorem inf131 : (Tryd.prog.info? 131).map (fun i => (i.zero, i.size, i.bytes)) = some (some .nilFunc, 1, 8) := by kernel_rfl
theorem inf132 : (Tryd.prog.info? 132).map (fun i => (i.zero, i.size, i.bytes)) = some (some .nilFunc, 1, 8) := by kernel_rfl
theorem inf133 : (Tryd.prog.info? 133).map (fun i => (i.zero, i.size, i.bytes)) = some (some (.agg #[(.string ByteArray.empty), (.string ByteArray.empty), .nilIface]), 3, 48) := by kernel_rfl
theorem inf134 : (Tryd.prog.info? 134).map (fun i => (i.zero, i.size, i.bytes)) = some (some (.agg #[(.string ByteArray.empty), (.string ByteArray.empty), .nilIface]), 3, 48) := by kernel_rfl
theorem inf135 : (Tryd.prog.info? 135).map (fun i => (i.zero, i.size, i.bytes)) = some (some .nilFunc, 1, 8) := by kernel_rfl
theorem inf136 : (Tryd.prog.info? 136).map (fun i => (i.zero, i.size, i.bytes)) = some (some .nilFunc, 1, 8) := by kernel_rfl
theorem inf137 : (Tryd.prog.info? 137).map (fun i => (i.zero, i.size, i.bytes)) = some (some (.agg #[(.int .u8 0), (.int .u8 0), (.int .u8 0), (.int .u8 0), (.int .u8 0), (.int .u8 0), (.int .u8 0), (.int .u8 0), (.int .u8 0), (.int .u8 0), (.int .u8 0), (.int .u8 0), (.int .u8 0), (.int .u8 0), (.int .u8 0), (.int .u8 0), (.int .u8 0), (.int .u8 0), (.int .u8 0), (.int .u8 0), (.int .u8 0), (.int .u8 0), (.int .u8 0), (.int .u8 0), (.int .u8 0), (.int .u8 0), (.int .u8 0), (.int .u8 0), (.int .u8 0), (.int .u8 0), (.int .u8 0), (.int .u8 0), (.int .u8 0), (.int .u8 0), (.int .u8 0), (.int .u8 0), (.int .u8 0), (.int .u8 0), (.int .u8 0), (.int .u8 0), (.int .u8 0), (.int .u8 0), (.int .u8 0), (.int .u8 0), (.int .u8 0), (.int .u8 0), (.int .u8 0), (.int .u8 0), (.int .u8 0), (.int .u8 0), (.int .u8 0), (.int .u8 0), (.int .u8 0), (.int .u8 0), (.int .u8 0), (.int .u8 0), (.int .u8 0), (.int .u8 0), (.int .u8 0), (.int .u8 0), (.int .u8 0), (.int .u8 0), (.int .u8 0), (.int .u8 0), (.int .u8 0), (.int .u8 0), (.int .u8 0), (.int .u8 0), (.int .u8 0), (.int .u8 0), (.int .u8 0), (.int .u8 0), (.int .u8 0), (.int .u8 0), (.int .u8 0), (.int .u8 0), (.int .u8 0), (.int .u8 0), (.int .u8 0), (.int .u8 0), (.int .u8 0), (.int .u8 0), (.int .u8 0), (.int .u8 0), (.int .u8 0), (.int .u8 0), (.int .u8 0), (.int .u8 0), (.int .u8 0), (.int .u8 0), (.int .u8 0), (.int .u8 0), (.int .u8 0), (.int .u8 0), (.int .u8 0), (.int .u8 0), (.int .u8 0), (.int .u8 0), (.int .u8 0), (.int .u8 0), (.int .u8 0), (.int .u8 0), (.int .u8 0), (.int .u8 0), (.int .u8 0), (.int .u8 0), (.int .u8 0), (.int .u8 0), (.int .u8 0), (.int .u8 0), (.int .u8 0), (.int .u8 0), (.int .u8 0), (.int .u8 0), (.int .u8 0), (.int .u8 0), (.int .u8 0), (.int .u8 0), (.int .u8 0), (.int .u8 0), (.int .u8 0), (.int .u8 0), (.int .u8 0), (.int .u8 0), (.int .u8 0), (.int .u8 0), (.int .u8 0), (.int .u8 0), (.int .u8 0), (.int .u8 0), (.int .u8 0), (.int .u8 0), (.int .u8 0), (.int .u8 0), (.int .u8 0), (.int .u8 0), (.int .u8 0), (.int .u8 0), (.int .u8 0), (.int .u8 0), (.int .u8 0), (.int .u8 0), (.int .u8 0), (.int .u8 0), (.int .u8 0), (.int .u8 0), (.int .u8 0), (.int .u8 0), (.int .u8 0), (.int .u8 0), (.int .u8 0), (.int .u8 0), (.int .u8 0), (.int .u8 0), (.int .u8 0), (.int .u8 0), (.int .u8 0), (.int .u8 0), (.int .u8 0), (.int .u8 0), (.int .u8 0), (.int .u8 0), (.int .u8 0), (.int .u8 0), (.int .u8 0), (.int .u8 0), (.int .u8 0), (.int .u8 0), (.int .u8 0), (.int .u8 0), (.int .u8 0), (.int .u8 0), (.int .u8 0), (.int .u8 0), (.int .u8 0), (.int .u8 0), (.int .u8 0), (.int .u8 0), (.int .u8 0), (.int .u8 0), (.int .u8 0), (.int .u8 0), (.int .u8 0), (.int .u8 0), (.int .u8 0), (.int .u8 0), (.int .u8 0), (.int .u8 0), (.int .u8 0), (.int .u8 0), (.int .u8 0), (.int .u8 0), (.int .u8 0), (.int .u8 0), (.int .u8 0), (.int .u8 0), (.int .u8 0), (.int .u8 0), (.int .u8 0), (.int .u8 0), (.int .u8 0), (.int .u8 0), (.int .u8 0), (.int .u8 0), (.int .u8 0), (.int .u8 0), (.int .u8 0), (.int .u8 0), (.int .u8 0), (.int .u8 0), (.int .u8 0), (.int .u8 0), (.int .u8 0), (.int .u8 0), (.int .u8 0), (.int .u8 0), (.int .u8 0), (.int .u8 0), (.int .u8 0), (.int .u8 0), (.int .u8 0), (.int .u8 0), (.int .u8 0), (.int .u8 0), (.int .u8 0), (.int .u8 0), (.int .u8 0), (.int .u8 0), (.int .u8 0), (.int .u8 0), (.int .u8 0), (.int .u8 0), (.int .u8 0), (.int .u8 0), (.int .u8 0), (.int .u8 0), (.int .u8 0), (.int .u8 0), (.int .u8 0), (.int .u8 0), (.int .u8 0), (.int .u8 0), (.int .u8 0), (.int .u8 0), (.int .u8 0), (.int .u8 0), (.int .u8 0), (.int .u8 0), (.int .u8 0), (.int .u8 0), (.int .u8 0), (.int .u8 0), (.int .u8 0), (.int .u8 0), (.int .u8 0), (.int .u8 0)]), 256, 256) := by kernel_rfl
theorem inf138 : (Tryd.prog.info? 138).map (fun i => (i.zero, i.size, i.bytes)) = some (some (.agg #[(.int .u8 0), (.int .u8 0)]), 2, 2) := by kernel_rfl
theorem inf139 : (Tryd.prog.info? 139).map (fun i => (i.zero, i.size, i.bytes)) = some (some (.agg #[(.int .u8 0), (.int .u8 0)]), 2, 2) := by kernel_rfl
theorem inf140 : (Tryd.prog.info? 140).map (fun i => (i.zero, i.size, i.bytes)) = some (some (.agg #[(.int .u8 0), (.int .u8 0), (.int .u8 0), (.int .u8 0), (.int .u8 0), (.int .u8 0), (.int .u8 0), (.int .u8 0), (.int .u8 0), (.int .u8 0), (.int .u8 0), (.int .u8 0), (.int .u8 0), (.int .u8 0), (.int .u8 0), (.int .u8 0), (.int .u8 0), (.int .u8 0), (.int .u8 0), (.int .u8 0), (.int .u8 0), (.int .u8 0), (.int .u8 0), (.int .u8 0), (.int .u8 0), (.int .u8 0), (.int .u8 0), (.int .u8 0), (.int .u8 0), (.int .u8 0), (.int .u8 0), (.int .u8 0)]), 32, 32) := by kernel_rfl
theorem inf142 : (Tryd.prog.info? 142).map (fun i => (i.zero, i.size, i.bytes)) = some (some .nilFunc, 1, 8) := by kernel_rfl
theorem inf143 : (Tryd.prog.info? 143).map (fun i => (i.zero, i.size, i.bytes)) = some (some .nilFunc, 1, 8) := by kernel_rfl
theorem inf144 : (Tryd.prog.info? 144).map (fun i => (i.zero, i.size, i.bytes)) = some (some (.pointer none), 1, 8) := by kernel_rfl
theorem inf145 : (Tryd.prog.info? 145).map (fun i => (i.zero, i.size, i.bytes)) = some (some (.agg #[(.string ByteArray.empty)]), 1, 16) := by kernel_rfl
theorem inf146 : (Tryd.prog.info? 146).map (fun i => (i.zero, i.size, i.bytes)) = some (some (.agg #[(.string ByteArray.empty)]), 1, 16) := by kernel_rfl
theorem inf147 : (Tryd.prog.info? 147).map (fun i => (i.zero, i.size, i.bytes)) = some (some (.agg #[(.int .u8 0), (.int .u8 0), (.int .u8 0), (.int .u8 0), (.int .u8 0), (.int .u8 0), (.int .u8 0), (.int .u8 0), (.int .u8 0), (.int .u8 0), (.int .u8 0), (.int .u8 0), (.int .u8 0), (.int .u8 0), (.int .u8 0), (.int .u8 0), (.int .u8 0), (.int .u8 0), (.int .u8 0), (.int .u8 0), (.int .u8 0), (.int .u8 0), (.int .u8 0), (.int .u8 0), (.int .u8 0), (.int .u8 0), (.int .u8 0), (.int .u8 0), (.int .u8 0), (.int .u8 0), (.int .u8 0), (.int .u8 0)]), 32, 32) := by kernel_rfl
theorem inf148 : (Tryd.prog.info? 148).map (fun i => (i.zero, i.size, i.bytes)) = some (some (.agg #[(.int .u8 0), (.int .u8 0), (.int .u8 0), (.int .u8 0), (.int .u8 0), (.int .u8 0), (.int .u8 0), (.int .u8 0), (.int .u8 0), (.int .u8 0), (.int .u8 0), (.int .u8 0), (.int .u8 0), (.int .u8 0), (.int .u8 0), (.int .u8 0), (.int .u8 0), (.int .u8 0), (.int .u8 0), (.int .u8 0), (.int .u8 0), (.int .u8 0), (.int .u8 0), (.int .u8 0), (.int .u8 0), (.int .u8 0), (.int .u8 0), (.int .u8 0), (.int .u8 0), (.int .u8 0), (.int .u8 0), (.int .u8 0), (.int .u8 0), (.int .u8 0), (.int .u8 0), (.int .u8 0), (.int .u8 0), (.int .u8 0), (.int .u8 0), (.int .u8 0), (.int .u8 0), (.int .u8 0), (.int .u8 0), (.int .u8 0), (.int .u8 0), (.int .u8 0), (.int .u8 0), (.int .u8 0), (.int .u8 0), (.int .u8 0), (.int .u8 0), (.int .u8 0), (.int .u8 0), (.int .u8 0), (.int .u8 0), (.int .u8 0), (.int .u8 0), (.int .u8 0), (.int .u8 0), (.int .u8 0), (.int .u8 0), (.int .u8 0), (.int .u8 0), (.int .u8 0)]), 64, 64) := by kernel_rfl
theorem inf149 : (Tryd.prog.info? 149).map (fun i => (i.zero, i.size, i.bytes)) = some (some (.agg #[(.pointer none), (.pointer none), (.pointer none), (.string ByteArray.empty)]), 4, 40) := by kernel_rfl
theorem inf151 : (Tryd.prog.info? 151).map (fun i => (i.zero, i.size, i.bytes)) = some (some (.agg #[]), 0, 0) := by kernel_rfl
theorem inf152 : (Tryd.prog.info? 152).map (fun i => (i.zero, i.size, i.bytes)) = some (some (.agg #[]), 0, 0) := by kernel_rfl
theorem inf156 : (Tryd.prog.info? 156).map (fun i => (i.zero, i.size, i.bytes)) = some (some .nilFunc, 1, 8) := by kernel_rfl
theorem inf159 : (Tryd.prog.info? 159).map (fun i => (i.zero, i.size, i.bytes)) = some (some (.agg #[(.int .u64 0), (.int .u64 0), (.int .u32 0), (.int .u8 0), (.int .u8 0), (.int .u8 0), (.int .u8 0), .nilFunc, (.pointer none), (.int .i32 0), (.int .i32 0)]), 11, 48) := by kernel_rfl
instance : TZeroC Tryd.prog 1 [.nilFunc] := ⟨let ⟨i, a, b, _, _⟩ := info_of inf1; ⟨i, _, a, b, rfl⟩⟩
instance : TCell Tryd.prog 1 := ⟨⟨_, Tryd.underlying1, rfl⟩, let ⟨i, a, _, c, _⟩ := info_of inf1; ⟨i, a, c⟩⟩
instance : TZeroC Tryd.prog 2 [(.int .i64 0)] := ⟨let ⟨i, a, b, _, _⟩ := info_of inf2; ⟨i, _, a, b, rfl⟩⟩
instance : TCell Tryd.prog 2 := ⟨⟨_, Tryd.underlying2, rfl⟩, let ⟨i, a, _, c, _⟩ := info_of inf2; ⟨i, a, c⟩⟩
instance : TInt Tryd.prog 2 .i64 := ⟨Tryd.underlying2⟩
instance : TZeroC Tryd.prog 3 [(.int .i64 0)] := ⟨let ⟨i, a, b, _, _⟩ := info_of inf3; ⟨i, _, a, b, rfl⟩⟩
instance : TCell Tryd.prog 3 := ⟨⟨_, Tryd.underlying3, rfl⟩, let ⟨i, a, _, c, _⟩ := info_of inf3; ⟨i, a, c⟩⟩
instance : TInt Tryd.prog 3 .i64 := ⟨Tryd.underlying3⟩
instance : TZeroC Tryd.prog 4 [(.bool false)] := ⟨let ⟨i, a, b, _, _⟩ := info_of inf4; ⟨i, _, a, b, rfl⟩⟩
instance : TCell Tryd.prog 4 := ⟨⟨_, Tryd.underlying4, rfl⟩, let ⟨i, a, _, c, _⟩ := info_of inf4; ⟨i, a, c⟩⟩
instance : TBool Tryd.prog 4 := ⟨Tryd.underlying4⟩
instance : TZeroC Tryd.prog 5 [(.int .u8 0)] := ⟨let ⟨i, a, b, _, _⟩ := info_of inf5; ⟨i, _, a, b, rfl⟩⟩
instance : TCell Tryd.prog 5 := ⟨⟨_, Tryd.underlying5, rfl⟩, let ⟨i, a, _, c, _⟩ := info_of inf5; ⟨i, a, c⟩⟩
instance : TInt Tryd.prog 5 .u8 := ⟨Tryd.underlying5⟩
instance : TZeroC Tryd.prog 7 [(.int .i64 0), (.int .i64 0), (.bool false), (.int .u8 0)] := ⟨let ⟨i, a, b, _, _⟩ := info_of inf7; ⟨i, _, a, b, rfl⟩⟩
instance : TAgg Tryd.prog 7 4 := ⟨⟨_, Tryd.underlying7, rfl⟩, let ⟨i, a, _, c, _⟩ := info_of inf7; ⟨i, a, c⟩⟩
instance : TFld Tryd.prog 7 0 0 := ⟨let ⟨i, a, _, c, _⟩ := info_of inf2; ⟨_, _, i, Tryd.underlying7, rfl, rfl, a, by rw [c]; decide⟩⟩
instance : TFld Tryd.prog 7 1 1 := ⟨let ⟨i, a, _, c, _⟩ := info_of inf3; ⟨_, _, i, Tryd.underlying7, rfl, rfl, a, by rw [c]; decide⟩⟩
instance : TFld Tryd.prog 7 2 2 := ⟨let ⟨i, a, _, c, _⟩ := info_of inf4; ⟨_, _, i, Tryd.underlying7, rfl, rfl, a, by rw [c]; decide⟩⟩
instance : TFldV Tryd.prog 7 0 0 := ⟨⟨_, _, _, Tryd.underlying7, rfl, rfl, Tryd.underlying2, rfl⟩⟩
instance : TFldV Tryd.prog 7 1 1 := ⟨⟨_, _, _, Tryd.underlying7, rfl, rfl, Tryd.underlying3, rfl⟩⟩
instance : TFldV Tryd.prog 7 2 2 := ⟨⟨_, _, _, Tryd.underlying7, rfl, rfl, Tryd.underlying4, rfl⟩⟩
instance : TZeroC Tryd.prog 9 [(.string ByteArray.empty)] := ⟨let ⟨i, a, b, _, _⟩ := info_of inf9; ⟨i, _, a, b, rfl⟩⟩
instance : TCell Tryd.prog 9 := ⟨⟨_, Tryd.underlying9, rfl⟩, let ⟨i, a, _, c, _⟩ := info_of inf9; ⟨i, a, c⟩⟩
instance : TStr Tryd.prog 9 := ⟨Tryd.underlying9⟩
instance : TZeroC Tryd.prog 12 [(.int .u64 0)] := ⟨let ⟨i, a, b, _, _⟩ := info_of inf12; ⟨i, _, a, b, rfl⟩⟩
instance : TCell Tryd.prog 12 := ⟨⟨_, Tryd.underlying12, rfl⟩, let ⟨i, a, _, c, _⟩ := info_of inf12; ⟨i, a, c⟩⟩
instance : TInt Tryd.prog 12 .u64 := ⟨Tryd.underlying12⟩
instance : TZeroC Tryd.prog 13 [(.string ByteArray.empty), (.int .u64 0)] := ⟨let ⟨i, a, b, _, _⟩ := info_of inf13; ⟨i, _, a, b, rfl⟩⟩
instance : TAgg Tryd.prog 13 2 := ⟨⟨_, Tryd.underlying13, rfl⟩, let ⟨i, a, _, c, _⟩ := info_of inf13; ⟨i, a, c⟩⟩
instance : TFld Tryd.prog 13 0 0 := ⟨let ⟨i, a, _, c, _⟩ := info_of inf9; ⟨_, _, i, Tryd.underlying13, rfl, rfl, a, by rw [c]; decide⟩⟩
instance : TFld Tryd.prog 13 1 1 := ⟨let ⟨i, a, _, c, _⟩ := info_of inf12; ⟨_, _, i, Tryd.underlying13, rfl, rfl, a, by rw [c]; decide⟩⟩
instance : TFldV Tryd.prog 13 0 0 := ⟨⟨_, _, _, Tryd.underlying13, rfl, rfl, Tryd.underlying9, rfl⟩⟩
instance : TFldV Tryd.prog 13 1 1 := ⟨⟨_, _, _, Tryd.underlying13, rfl, rfl, Tryd.underlying12, rfl⟩⟩
instance : TStruct Tryd.prog 13 [(0, 1), (1, 1)] [(.string ByteArray.empty), (.int .u64 0)] := ⟨let ⟨i, a, b, _, _⟩ := info_of inf13; ⟨i, _, _, a, b, rfl, Tryd.underlying13, by kernel_rfl⟩⟩
instance : TZeroC Tryd.prog 18 [(.pointer none)] := ⟨let ⟨i, a, b, _, _⟩ := info_of inf18; ⟨i, _, a, b, rfl⟩⟩
instance : TAgg Tryd.prog 18 1 := ⟨⟨_, Tryd.underlying18, rfl⟩, let ⟨i, a, _, c, _⟩ := info_of inf18; ⟨i, a, c⟩⟩
instance : TZeroC Tryd.prog 20 [.nilIface] := ⟨let ⟨i, a, b, _, _⟩ := info_of inf20; ⟨i, _, a, b, rfl⟩⟩
instance : TCell Tryd.prog 20 := ⟨⟨_, Tryd.underlying20, rfl⟩, let ⟨i, a, _, c, _⟩ := info_of inf20; ⟨i, a, c⟩⟩
instance : TIfc Tryd.prog 20 := ⟨_, Tryd.underlying20⟩
instance : TZeroC Tryd.prog 21 [(.int .i32 0)] := ⟨let ⟨i, a, b, _, _⟩ := info_of inf21; ⟨i, _, a, b, rfl⟩⟩
instance : TCell Tryd.prog 21 := ⟨⟨_, Tryd.underlying21, rfl⟩, let ⟨i, a, _, c, _⟩ := info_of inf21; ⟨i, a, c⟩⟩
instance : TInt Tryd.prog 21 .i32 := ⟨Tryd.underlying21⟩
instance : TZeroC Tryd.prog 22 [(.int .i64 0), (.int .i64 0), (.int .i64 0), (.string ByteArray.empty), (.int .i64 0)] := ⟨let ⟨i, a, b, _, _⟩ := info_of inf22; ⟨i, _, a, b, rfl⟩⟩
instance : TAgg Tryd.prog 22 5 := ⟨⟨_, Tryd.underlying22, rfl⟩, let ⟨i, a, _, c, _⟩ := info_of inf22; ⟨i, a, c⟩⟩
instance : TFld Tryd.prog 22 0 0 := ⟨let ⟨i, a, _, c, _⟩ := info_of inf3; ⟨_, _, i, Tryd.underlying22, rfl, rfl, a, by rw [c]; decide⟩⟩
instance : TFld Tryd.prog 22 1 1 := ⟨let ⟨i, a, _, c, _⟩ := info_of inf3; ⟨_, _, i, Tryd.underlying22, rfl, rfl, a, by rw [c]; decide⟩⟩
instance : TFld Tryd.prog 22 2 2 := ⟨let ⟨i, a, _, c, _⟩ := info_of inf3; ⟨_, _, i, Tryd.underlying22, rfl, rfl, a, by rw [c]; decide⟩⟩
instance : TFld Tryd.prog 22 3 3 := ⟨let ⟨i, a, _, c, _⟩ := info_of inf9; ⟨_, _, i, Tryd.underlying22, rfl, rfl, a, by rw [c]; decide⟩⟩
instance : TFld Tryd.prog 22 4 4 := ⟨let ⟨i, a, _, c, _⟩ := info_of inf3; ⟨_, _, i, Tryd.underlying22, rfl, rfl, a, by rw [c]; decide⟩⟩
instance : TFldV Tryd.prog 22 0 0 := ⟨⟨_, _, _, Tryd.underlying22, rfl, rfl, Tryd.underlying3, rfl⟩⟩
instance : TFldV Tryd.prog 22 1 1 := ⟨⟨_, _, _, Tryd.underlying22, rfl, rfl, Tryd.underlying3, rfl⟩⟩
instance : TFldV Tryd.prog 22 2 2 := ⟨⟨_, _, _, Tryd.underlying22, rfl, rfl, Tryd.underlying3, rfl⟩⟩
instance : TFldV Tryd.prog 22 3 3 := ⟨⟨_, _, _, Tryd.underlying22, rfl, rfl, Tryd.underlying9, rfl⟩⟩
instance : TFldV Tryd.prog 22 4 4 := ⟨⟨_, _, _, Tryd.underlying22, rfl, rfl, Tryd.underlying3, rfl⟩⟩
instance : TStruct Tryd.prog 22 [(0, 1), (1, 1), (2, 1), (3, 1), (4, 1)] [(.int .i64 0), (.int .i64 0), (.int .i64 0), (.string ByteArray.empty), (.int .i64 0)] := ⟨let ⟨i, a, b, _, _⟩ := info_of inf22; ⟨i, _, _, a, b, rfl, Tryd.underlying22, by kernel_rfl⟩⟩
instance : TZeroC Tryd.prog 23 [(.int .i64 0), (.int .i64 0), (.int .i64 0), (.string ByteArray.empty), (.int .i64 0)] := ⟨let ⟨i, a, b, _, _⟩ := info_of inf23; ⟨i, _, a, b, rfl⟩⟩
instance : TAgg Tryd.prog 23 5 := ⟨⟨_, Tryd.underlying23, rfl⟩, let ⟨i, a, _, c, _⟩ := info_of inf23; ⟨i, a, c⟩⟩
instance : TFld Tryd.prog 23 0 0 := ⟨let ⟨i, a, _, c, _⟩ := info_of inf3; ⟨_, _, i, Tryd.underlying23, rfl, rfl, a, by rw [c]; decide⟩⟩
instance : TFld Tryd.prog 23 1 1 := ⟨let ⟨i, a, _, c, _⟩ := info_of inf3; ⟨_, _, i, Tryd.underlying23, rfl, rfl, a, by rw [c]; decide⟩⟩
instance : TFld Tryd.prog 23 2 2 := ⟨let ⟨i, a, _, c, _⟩ := info_of inf3; ⟨_, _, i, Tryd.underlying23, rfl, rfl, a, by rw [c]; decide⟩⟩
instance : TFld Tryd.prog 23 3 3 := ⟨let ⟨i, a, _, c, _⟩ := info_of inf9; ⟨_, _, i, Tryd.underlying23, rfl, rfl, a, by rw [c]; decide⟩⟩
instance : TFld Tryd.prog 23 4 4 := ⟨let ⟨i, a, _, c, _⟩ := info_of inf3; ⟨_, _, i, Tryd.underlying23, rfl, rfl, a, by rw [c]; decide⟩⟩
instance : TFldV Tryd.prog 23 0 0 := ⟨⟨_, _, _, Tryd.underlying23, rfl, rfl, Tryd.underlying3, rfl⟩⟩
instance : TFldV Tryd.prog 23 1 1 := ⟨⟨_, _, _, Tryd.underlying23, rfl, rfl, Tryd.underlying3, rfl⟩⟩
instance : TFldV Tryd.prog 23 2 2 := ⟨⟨_, _, _, Tryd.underlying23, rfl, rfl, Tryd.underlying3, rfl⟩⟩
instance : TFldV Tryd.prog 23 3 3 := ⟨⟨_, _, _, Tryd.underlying23, rfl, rfl, Tryd.underlying9, rfl⟩⟩
instance : TFldV Tryd.prog 23 4 4 := ⟨⟨_, _, _, Tryd.underlying23, rfl, rfl, Tryd.underlying3, rfl⟩⟩
instance : TFlat Tryd.prog 23 [.int .i64, .int .i64, .int .i64, .str, .int .i64] := ⟨⟨_, Tryd.underlying23, by kernel_rfl⟩, by kernel_rfl, by kernel_rfl⟩
instance : TStruct Tryd.prog 23 [(0, 1), (1, 1), (2, 1), (3, 1), (4, 1)] [(.int .i64 0), (.int .i64 0), (.int .i64 0), (.string ByteArray.empty), (.int .i64 0)] := ⟨let ⟨i, a, b, _, _⟩ := info_of inf23; ⟨i, _, _, a, b, rfl, Tryd.underlying23, by kernel_rfl⟩⟩
instance : TZeroC Tryd.prog 24 [.nilFunc] := ⟨let ⟨i, a, b, _, _⟩ := info_of inf24; ⟨i, _, a, b, rfl⟩⟩
instance : TCell Tryd.prog 24 := ⟨⟨_, Tryd.underlying24, rfl⟩, let ⟨i, a, _, c, _⟩ := info_of inf24; ⟨i, a, c⟩⟩
instance : TZeroC Tryd.prog 25 [(.int .i64 0)] := ⟨let ⟨i, a, b, _, _⟩ := info_of inf25; ⟨i, _, a, b, rfl⟩⟩
instance : TCell Tryd.prog 25 := ⟨⟨_, Tryd.underlying25, rfl⟩, let ⟨i, a, _, c, _⟩ := info_of inf25; ⟨i, a, c⟩⟩
instance : TInt Tryd.prog 25 .i64 := ⟨Tryd.underlying25⟩
instance : TZeroC Tryd.prog 27 [.nilFunc] := ⟨let ⟨i, a, b, _, _⟩ := info_of inf27; ⟨i, _, a, b, rfl⟩⟩
instance : TCell Tryd.prog 27 := ⟨⟨_, Tryd.underlying27, rfl⟩, let ⟨i, a, _, c, _⟩ := info_of inf27; ⟨i, a, c⟩⟩
instance : TZeroC Tryd.prog 29 [.nilFunc] := ⟨let ⟨i, a, b, _, _⟩ := info_of inf29; ⟨i, _, a, b, rfl⟩⟩
instance : TCell Tryd.prog 29 := ⟨⟨_, Tryd.underlying29, rfl⟩, let ⟨i, a, _, c, _⟩ := info_of inf29; ⟨i, a, c⟩⟩
instance : TZeroC Tryd.prog 31 [.nilFunc] := ⟨let ⟨i, a, b, _, _⟩ := info_of inf31; ⟨i, _, a, b, rfl⟩⟩
instance : TCell Tryd.prog 31 := ⟨⟨_, Tryd.underlying31, rfl⟩, let ⟨i, a, _, c, _⟩ := info_of inf31; ⟨i, a, c⟩⟩
instance : TZeroC Tryd.prog 33 [.nilFunc] := ⟨let ⟨i, a, b, _, _⟩ := info_of inf33; ⟨i, _, a, b, rfl⟩⟩
instance : TCell Tryd.prog 33 := ⟨⟨_, Tryd.underlying33, rfl⟩, let ⟨i, a, _, c, _⟩ := info_of inf33; ⟨i, a, c⟩⟩
instance : TZeroC Tryd.prog 34 [.nilFunc] := ⟨let ⟨i, a, b, _, _⟩ := info_of inf34; ⟨i, _, a, b, rfl⟩⟩
instance : TCell Tryd.prog 34 := ⟨⟨_, Tryd.underlying34, rfl⟩, let ⟨i, a, _, c, _⟩ := info_of inf34; ⟨i, a, c⟩⟩
instance : TZeroC Tryd.prog 35 [(.int .u64 0)] := ⟨let ⟨i, a, b, _, _⟩ := info_of inf35; ⟨i, _, a, b, rfl⟩⟩
instance : TCell Tryd.prog 35 := ⟨⟨_, Tryd.underlying35, rfl⟩, let ⟨i, a, _, c, _⟩ := info_of inf35; ⟨i, a, c⟩⟩
instance : TInt Tryd.prog 35 .u64 := ⟨Tryd.underlying35⟩
instance : TZeroC Tryd.prog 36 [(.int .i64 0), (.int .i64 0), (.int .u64 0), (.int .i64 0), (.int .i64 0), (.string ByteArray.empty), (.int .i64 0), (.int .i64 0), (.bool false)] := ⟨let ⟨i, a, b, _, _⟩ := info_of inf36; ⟨i, _, a, b, rfl⟩⟩
instance : TAgg Tryd.prog 36 9 := ⟨⟨_, Tryd.underlying36, rfl⟩, let ⟨i, a, _, c, _⟩ := info_of inf36; ⟨i, a, c⟩⟩
instance : TFld Tryd.prog 36 0 0 := ⟨let ⟨i, a, _, c, _⟩ := info_of inf3; ⟨_, _, i, Tryd.underlying36, rfl, rfl, a, by rw [c]; decide⟩⟩
instance : TFld Tryd.prog 36 1 1 := ⟨let ⟨i, a, _, c, _⟩ := info_of inf3; ⟨_, _, i, Tryd.underlying36, rfl, rfl, a, by rw [c]; decide⟩⟩
instance : TFld Tryd.prog 36 2 2 := ⟨let ⟨i, a, _, c, _⟩ := info_of inf35; ⟨_, _, i, Tryd.underlying36, rfl, rfl, a, by rw [c]; decide⟩⟩
instance : TFld Tryd.prog 36 3 3 := ⟨let ⟨i, a, _, c, _⟩ := info_of inf3; ⟨_, _, i, Tryd.underlying36, rfl, rfl, a, by rw [c]; decide⟩⟩
instance : TFld Tryd.prog 36 4 4 := ⟨let ⟨i, a, _, c, _⟩ := info_of inf3; ⟨_, _, i, Tryd.underlying36, rfl, rfl, a, by rw [c]; decide⟩⟩
instance : TFld Tryd.prog 36 5 5 := ⟨let ⟨i, a, _, c, _⟩ := info_of inf9; ⟨_, _, i, Tryd.underlying36, rfl, rfl, a, by rw [c]; decide⟩⟩
instance : TFld Tryd.prog 36 6 6 := ⟨let ⟨i, a, _, c, _⟩ := info_of inf3; ⟨_, _, i, Tryd.underlying36, rfl, rfl, a, by rw [c]; decide⟩⟩
instance : TFld Tryd.prog 36 7 7 := ⟨let ⟨i, a, _, c, _⟩ := info_of inf3; ⟨_, _, i, Tryd.underlying36, rfl, rfl, a, by rw [c]; decide⟩⟩
instance : TFld Tryd.prog 36 8 8 := ⟨let ⟨i, a, _, c, _⟩ := info_of inf4; ⟨_, _, i, Tryd.underlying36, rfl, rfl, a, by rw [c]; decide⟩⟩
instance : TFldV Tryd.prog 36 0 0 := ⟨⟨_, _, _, Tryd.underlying36, rfl, rfl, Tryd.underlying3, rfl⟩⟩
instance : TFldV Tryd.prog 36 1 1 := ⟨⟨_, _, _, Tryd.underlying36, rfl, rfl, Tryd.underlying3, rfl⟩⟩
instance : TFldV Tryd.prog 36 2 2 := ⟨⟨_, _, _, Tryd.underlying36, rfl, rfl, Tryd.underlying35, rfl⟩⟩
instance : TFldV Tryd.prog 36 3 3 := ⟨⟨_, _, _, Tryd.underlying36, rfl, rfl, Tryd.underlying3, rfl⟩⟩
instance : TFldV Tryd.prog 36 4 4 := ⟨⟨_, _, _, Tryd.underlying36, rfl, rfl, Tryd.underlying3, rfl⟩⟩
instance : TFldV Tryd.prog 36 5 5 := ⟨⟨_, _, _, Tryd.underlying36, rfl, rfl, Tryd.underlying9, rfl⟩⟩
instance : TFldV Tryd.prog 36 6 6 := ⟨⟨_, _, _, Tryd.underlying36, rfl, rfl, Tryd.underlying3, rfl⟩⟩
instance : TFldV Tryd.prog 36 7 7 := ⟨⟨_, _, _, Tryd.underlying36, rfl, rfl, Tryd.underlying3, rfl⟩⟩
instance : TFldV Tryd.prog 36 8 8 := ⟨⟨_, _, _, Tryd.underlying36, rfl, rfl, Tryd.underlying4, rfl⟩⟩
instance : TStruct Tryd.prog 36 [(0, 1), (1, 1), (2, 1), (3, 1), (4, 1), (5, 1), (6, 1), (7, 1), (8, 1)] [(.int .i64 0), (.int .i64 0), (.int .u64 0), (.int .i64 0), (.int .i64 0), (.string ByteArray.empty), (.int .i64 0), (.int .i64 0), (.bool false)] := ⟨let ⟨i, a, b, _, _⟩ := info_of inf36; ⟨i, _, _, a, b, rfl, Tryd.underlying36, by kernel_rfl⟩⟩
instance : TZeroC Tryd.prog 37 [(.int .i64 0), (.int .i64 0), (.int .u64 0), (.int .i64 0), (.int .i64 0), (.string ByteArray.empty), (.int .i64 0), (.int .i64 0), (.bool false)] := ⟨let ⟨i, a, b, _, _⟩ := info_of inf37; ⟨i, _, a, b, rfl⟩⟩
instance : TAgg Tryd.prog 37 9 := ⟨⟨_, Tryd.underlying37, rfl⟩, let ⟨i, a, _, c, _⟩ := info_of inf37; ⟨i, a, c⟩⟩
instance : TFld Tryd.prog 37 0 0 := ⟨let ⟨i, a, _, c, _⟩ := info_of inf3; ⟨_, _, i, Tryd.underlying37, rfl, rfl, a, by rw [c]; decide⟩⟩
instance : TFld Tryd.prog 37 1 1 := ⟨let ⟨i, a, _, c, _⟩ := info_of inf3; ⟨_, _, i, Tryd.underlying37, rfl, rfl, a, by rw [c]; decide⟩⟩
instance : TFld Tryd.prog 37 2 2 := ⟨let ⟨i, a, _, c, _⟩ := info_of inf35; ⟨_, _, i, Tryd.underlying37, rfl, rfl, a, by rw [c]; decide⟩⟩
instance : TFld Tryd.prog 37 3 3 := ⟨let ⟨i, a, _, c, _⟩ := info_of inf3; ⟨_, _, i, Tryd.underlying37, rfl, rfl, a, by rw [c]; decide⟩⟩
instance : TFld Tryd.prog 37 4 4 := ⟨let ⟨i, a, _, c, _⟩ := info_of inf3; ⟨_, _, i, Tryd.underlying37, rfl, rfl, a, by rw [c]; decide⟩⟩
instance : TFld Tryd.prog 37 5 5 := ⟨let ⟨i, a, _, c, _⟩ := info_of inf9; ⟨_, _, i, Tryd.underlying37, rfl, rfl, a, by rw [c]; decide⟩⟩
instance : TFld Tryd.prog 37 6 6 := ⟨let ⟨i, a, _, c, _⟩ := info_of inf3; ⟨_, _, i, Tryd.underlying37, rfl, rfl, a, by rw [c]; decide⟩⟩
instance : TFld Tryd.prog 37 7 7 := ⟨let ⟨i, a, _, c, _⟩ := info_of inf3; ⟨_, _, i, Tryd.underlying37, rfl, rfl, a, by rw [c]; decide⟩⟩
instance : TFld Tryd.prog 37 8 8 := ⟨let ⟨i, a, _, c, _⟩ := info_of inf4; ⟨_, _, i, Tryd.underlying37, rfl, rfl, a, by rw [c]; decide⟩⟩
instance : TFldV Tryd.prog 37 0 0 := ⟨⟨_, _, _, Tryd.underlying37, rfl, rfl, Tryd.underlying3, rfl⟩⟩
instance : TFldV Tryd.prog 37 1 1 := ⟨⟨_, _, _, Tryd.underlying37, rfl, rfl, Tryd.underlying3, rfl⟩⟩
instance : TFldV Tryd.prog 37 2 2 := ⟨⟨_, _, _, Tryd.underlying37, rfl, rfl, Tryd.underlying35, rfl⟩⟩
instance : TFldV Tryd.prog 37 3 3 := ⟨⟨_, _, _, Tryd.underlying37, rfl, rfl, Tryd.underlying3, rfl⟩⟩
instance : TFldV Tryd.prog 37 4 4 := ⟨⟨_, _, _, Tryd.underlying37, rfl, rfl, Tryd.underlying3, rfl⟩⟩
instance : TFldV Tryd.prog 37 5 5 := ⟨⟨_, _, _, Tryd.underlying37, rfl, rfl, Tryd.underlying9, rfl⟩⟩
instance : TFldV Tryd.prog 37 6 6 := ⟨⟨_, _, _, Tryd.underlying37, rfl, rfl, Tryd.underlying3, rfl⟩⟩
instance : TFldV Tryd.prog 37 7 7 := ⟨⟨_, _, _, Tryd.underlying37, rfl, rfl, Tryd.underlying3, rfl⟩⟩
instance : TFldV Tryd.prog 37 8 8 := ⟨⟨_, _, _, Tryd.underlying37, rfl, rfl, Tryd.underlying4, rfl⟩⟩
instance : TFlat Tryd.prog 37 [.int .i64, .int .i64, .int .u64, .int .i64, .int .i64, .str, .int .i64, .int .i64, .bool] := ⟨⟨_, Tryd.underlying37, by kernel_rfl⟩, by kernel_rfl, by kernel_rfl⟩
instance : TStruct Tryd.prog 37 [(0, 1), (1, 1), (2, 1), (3, 1), (4, 1), (5, 1), (6, 1), (7, 1), (8, 1)] [(.int .i64 0), (.int .i64 0), (.int .u64 0), (.int .i64 0), (.int .i64 0), (.string ByteArray.empty), (.int .i64 0), (.int .i64 0), (.bool false)] := ⟨let ⟨i, a, b, _, _⟩ := info_of inf37; ⟨i, _, _, a, b, rfl, Tryd.underlying37, by kernel_rfl⟩⟩
instance : TZeroC Tryd.prog 38 [.nilFunc] := ⟨let ⟨i, a, b, _, _⟩ := info_of inf38; ⟨i, _, a, b, rfl⟩⟩
instance : TCell Tryd.prog 38 := ⟨⟨_, Tryd.underlying38, rfl⟩, let ⟨i, a, _, c, _⟩ := info_of inf38; ⟨i, a, c⟩⟩
instance : TZeroC Tryd.prog 39 [.nilFunc] := ⟨let ⟨i, a, b, _, _⟩ := info_of inf39; ⟨i, _, a, b, rfl⟩⟩
instance : TCell Tryd.prog 39 := ⟨⟨_, Tryd.underlying39, rfl⟩, let ⟨i, a, _, c, _⟩ := info_of inf39; ⟨i, a, c⟩⟩
instance : TZeroC Tryd.prog 41 [.nilFunc] := ⟨let ⟨i, a, b, _, _⟩ := info_of inf41; ⟨i, _, a, b, rfl⟩⟩
instance : TCell Tryd.prog 41 := ⟨⟨_, Tryd.underlying41, rfl⟩, let ⟨i, a, _, c, _⟩ := info_of inf41; ⟨i, a, c⟩⟩
instance : TZeroC Tryd.prog 43 [.nilFunc] := ⟨let ⟨i, a, b, _, _⟩ := info_of inf43; ⟨i, _, a, b, rfl⟩⟩
instance : TCell Tryd.prog 43 := ⟨⟨_, Tryd.underlying43, rfl⟩, let ⟨i, a, _, c, _⟩ := info_of inf43; ⟨i, a, c⟩⟩
instance : TZeroC Tryd.prog 44 [.nilFunc] := ⟨let ⟨i, a, b, _, _⟩ := info_of inf44; ⟨i, _, a, b, rfl⟩⟩
instance : TCell Tryd.prog 44 := ⟨⟨_, Tryd.underlying44, rfl⟩, let ⟨i, a, _, c, _⟩ := info_of inf44; ⟨i, a, c⟩⟩
instance : TZeroC Tryd.prog 45 [(.slice none 0 0)] := ⟨let ⟨i, a, b, _, _⟩ := info_of inf45; ⟨i, _, a, b, rfl⟩⟩
instance : TCell Tryd.prog 45 := ⟨⟨_, Tryd.underlying45, rfl⟩, let ⟨i, a, _, c, _⟩ := info_of inf45; ⟨i, a, c⟩⟩
instance : TSlice Tryd.prog 45 23 5 := ⟨let ⟨i, a, _, c, _⟩ := info_of inf23; ⟨i, Tryd.underlying45, a, c⟩⟩
instance : TElem Tryd.prog 45 23 5 48 [(.int .i64 0), (.int .i64 0), (.int .i64 0), (.string ByteArray.empty), (.int .i64 0)] := ⟨let ⟨i, a, b, c, d⟩ := info_of inf23; ⟨i, _, Tryd.underlying45, a, c, d, b, rfl, rfl⟩⟩
instance : TZeroC Tryd.prog 47 [.nilFunc] := ⟨let ⟨i, a, b, _, _⟩ := info_of inf47; ⟨i, _, a, b, rfl⟩⟩
instance : TCell Tryd.prog 47 := ⟨⟨_, Tryd.underlying47, rfl⟩, let ⟨i, a, _, c, _⟩ := info_of inf47; ⟨i, a, c⟩⟩
instance : TZeroC Tryd.prog 49 [.nilFunc] := ⟨let ⟨i, a, b, _, _⟩ := info_of inf49; ⟨i, _, a, b, rfl⟩⟩
instance : TCell Tryd.prog 49 := ⟨⟨_, Tryd.underlying49, rfl⟩, let ⟨i, a, _, c, _⟩ := info_of inf49; ⟨i, a, c⟩⟩
instance : TZeroC Tryd.prog 51 [.nilFunc] := ⟨let ⟨i, a, b, _, _⟩ := info_of inf51; ⟨i, _, a, b, rfl⟩⟩
instance : TCell Tryd.prog 51 := ⟨⟨_, Tryd.underlying51, rfl⟩, let ⟨i, a, _, c, _⟩ := info_of inf51; ⟨i, a, c⟩⟩
instance : TZeroC Tryd.prog 53 [.nilFunc] := ⟨let ⟨i, a, b, _, _⟩ := info_of inf53; ⟨i, _, a, b, rfl⟩⟩
instance : TCell Tryd.prog 53 := ⟨⟨_, Tryd.underlying53, rfl⟩, let ⟨i, a, _, c, _⟩ := info_of inf53; ⟨i, a, c⟩⟩
instance : TZeroC Tryd.prog 54 [.nilFunc] := ⟨let ⟨i, a, b, _, _⟩ := info_of inf54; ⟨i, _, a, b, rfl⟩⟩
instance : TCell Tryd.prog 54 := ⟨⟨_, Tryd.underlying54, rfl⟩, let ⟨i, a, _, c, _⟩ := info_of inf54; ⟨i, a, c⟩⟩
instance : TZeroC Tryd.prog 55 [.nilFunc] := ⟨let ⟨i, a, b, _, _⟩ := info_of inf55; ⟨i, _, a, b, rfl⟩⟩
instance : TCell Tryd.prog 55 := ⟨⟨_, Tryd.underlying55, rfl⟩, let ⟨i, a, _, c, _⟩ := info_of inf55; ⟨i, a, c⟩⟩
instance : TZeroC Tryd.prog 56 [.nilFunc] := ⟨let ⟨i, a, b, _, _⟩ := info_of inf56; ⟨i, _, a, b, rfl⟩⟩
instance : TCell Tryd.prog 56 := ⟨⟨_, Tryd.underlying56, rfl⟩, let ⟨i, a, _, c, _⟩ := info_of inf56; ⟨i, a, c⟩⟩
instance : TZeroC Tryd.prog 57 [.nilFunc] := ⟨let ⟨i, a, b, _, _⟩ := info_of inf57; ⟨i, _, a, b, rfl⟩⟩
instance : TCell Tryd.prog 57 := ⟨⟨_, Tryd.underlying57, rfl⟩, let ⟨i, a, _, c, _⟩ := info_of inf57; ⟨i, a, c⟩⟩
instance : TZeroC Tryd.prog 58 [.nilFunc] := ⟨let ⟨i, a, b, _, _⟩ := info_of inf58; ⟨i, _, a, b, rfl⟩⟩
instance : TCell Tryd.prog 58 := ⟨⟨_, Tryd.underlying58, rfl⟩, let ⟨i, a, _, c, _⟩ := info_of inf58; ⟨i, a, c⟩⟩
instance : TZeroC Tryd.prog 60 [.nilFunc] := ⟨let ⟨i, a, b, _, _⟩ := info_of inf60; ⟨i, _, a, b, rfl⟩⟩
instance : TCell Tryd.prog 60 := ⟨⟨_, Tryd.underlying60, rfl⟩, let ⟨i, a, _, c, _⟩ := info_of inf60; ⟨i, a, c⟩⟩
instance : TZeroC Tryd.prog 61 [.nilFunc] := ⟨let ⟨i, a, b, _, _⟩ := info_of inf61; ⟨i, _, a, b, rfl⟩⟩
instance : TCell Tryd.prog 61 := ⟨⟨_, Tryd.underlying61, rfl⟩, let ⟨i, a, _, c, _⟩ := info_of inf61; ⟨i, a, c⟩⟩
instance : TZeroC Tryd.prog 62 [(.pointer none)] := ⟨let ⟨i, a, b, _, _⟩ := info_of inf62; ⟨i, _, a, b, rfl⟩⟩
instance : TCell Tryd.prog 62 := ⟨⟨_, Tryd.underlying62, rfl⟩, let ⟨i, a, _, c, _⟩ := info_of inf62; ⟨i, a, c⟩⟩
instance : TPtr Tryd.prog 62 := ⟨_, Tryd.underlying62⟩
instance : TZeroC Tryd.prog 63 [(.slice none 0 0)] := ⟨let ⟨i, a, b, _, _⟩ := info_of inf63; ⟨i, _, a, b, rfl⟩⟩
instance : TCell Tryd.prog 63 := ⟨⟨_, Tryd.underlying63, rfl⟩, let ⟨i, a, _, c, _⟩ := info_of inf63; ⟨i, a, c⟩⟩
instance : TSlice Tryd.prog 63 9 1 := ⟨let ⟨i, a, _, c, _⟩ := info_of inf9; ⟨i, Tryd.underlying63, a, c⟩⟩
instance : TElem Tryd.prog 63 9 1 16 [(.string ByteArray.empty)] := ⟨let ⟨i, a, b, c, d⟩ := info_of inf9; ⟨i, _, Tryd.underlying63, a, c, d, b, rfl, rfl⟩⟩
instance : TZeroC Tryd.prog 64 [.nilFunc] := ⟨let ⟨i, a, b, _, _⟩ := info_of inf64; ⟨i, _, a, b, rfl⟩⟩
instance : TCell Tryd.prog 64 := ⟨⟨_, Tryd.underlying64, rfl⟩, let ⟨i, a, _, c, _⟩ := info_of inf64; ⟨i, a, c⟩⟩
instance : TZeroC Tryd.prog 65 [(.slice none 0 0), (.bool false)] := ⟨let ⟨i, a, b, _, _⟩ := info_of inf65; ⟨i, _, a, b, rfl⟩⟩
instance : TAgg Tryd.prog 65 2 := ⟨⟨_, Tryd.underlying65, rfl⟩, let ⟨i, a, _, c, _⟩ := info_of inf65; ⟨i, a, c⟩⟩
instance : TFld Tryd.prog 65 0 0 := ⟨let ⟨i, a, _, c, _⟩ := info_of inf63; ⟨_, _, i, Tryd.underlying65, rfl, rfl, a, by rw [c]; decide⟩⟩
instance : TFld Tryd.prog 65 1 1 := ⟨let ⟨i, a, _, c, _⟩ := info_of inf4; ⟨_, _, i, Tryd.underlying65, rfl, rfl, a, by rw [c]; decide⟩⟩
instance : TFldV Tryd.prog 65 0 0 := ⟨⟨_, _, _, Tryd.underlying65, rfl, rfl, Tryd.underlying63, rfl⟩⟩
instance : TFldV Tryd.prog 65 1 1 := ⟨⟨_, _, _, Tryd.underlying65, rfl, rfl, Tryd.underlying4, rfl⟩⟩
instance : TStruct Tryd.prog 65 [(0, 1), (1, 1)] [(.slice none 0 0), (.bool false)] := ⟨let ⟨i, a, b, _, _⟩ := info_of inf65; ⟨i, _, _, a, b, rfl, Tryd.underlying65, by kernel_rfl⟩⟩
instance : TZeroC Tryd.prog 66 [(.slice none 0 0), (.bool false)] := ⟨let ⟨i, a, b, _, _⟩ := info_of inf66; ⟨i, _, a, b, rfl⟩⟩
instance : TAgg Tryd.prog 66 2 := ⟨⟨_, Tryd.underlying66, rfl⟩, let ⟨i, a, _, c, _⟩ := info_of inf66; ⟨i, a, c⟩⟩
instance : TFld Tryd.prog 66 0 0 := ⟨let ⟨i, a, _, c, _⟩ := info_of inf63; ⟨_, _, i, Tryd.underlying66, rfl, rfl, a, by rw [c]; decide⟩⟩
instance : TFld Tryd.prog 66 1 1 := ⟨let ⟨i, a, _, c, _⟩ := info_of inf4; ⟨_, _, i, Tryd.underlying66, rfl, rfl, a, by rw [c]; decide⟩⟩
instance : TFldV Tryd.prog 66 0 0 := ⟨⟨_, _, _, Tryd.underlying66, rfl, rfl, Tryd.underlying63, rfl⟩⟩
instance : TFldV Tryd.prog 66 1 1 := ⟨⟨_, _, _, Tryd.underlying66, rfl, rfl, Tryd.underlying4, rfl⟩⟩
instance : TStruct Tryd.prog 66 [(0, 1), (1, 1)] [(.slice none 0 0), (.bool false)] := ⟨let ⟨i, a, b, _, _⟩ := info_of inf66; ⟨i, _, _, a, b, rfl, Tryd.underlying66, by kernel_rfl⟩⟩
instance : TZeroC Tryd.prog 67 [.nilFunc] := ⟨let ⟨i, a, b, _, _⟩ := info_of inf67; ⟨i, _, a, b, rfl⟩⟩
instance : TCell Tryd.prog 67 := ⟨⟨_, Tryd.underlying67, rfl⟩, let ⟨i, a, _, c, _⟩ := info_of inf67; ⟨i, a, c⟩⟩
instance : TZeroC Tryd.prog 68 [.nilFunc] := ⟨let ⟨i, a, b, _, _⟩ := info_of inf68; ⟨i, _, a, b, rfl⟩⟩
instance : TCell Tryd.prog 68 := ⟨⟨_, Tryd.underlying68, rfl⟩, let ⟨i, a, _, c, _⟩ := info_of inf68; ⟨i, a, c⟩⟩
instance : TZeroC Tryd.prog 69 [.nilFunc] := ⟨let ⟨i, a, b, _, _⟩ := info_of inf69; ⟨i, _, a, b, rfl⟩⟩
instance : TCell Tryd.prog 69 := ⟨⟨_, Tryd.underlying69, rfl⟩, let ⟨i, a, _, c, _⟩ := info_of inf69; ⟨i, a, c⟩⟩
instance : TZeroC Tryd.prog 70 [.nilFunc] := ⟨let ⟨i, a, b, _, _⟩ := info_of inf70; ⟨i, _, a, b, rfl⟩⟩
instance : TCell Tryd.prog 70 := ⟨⟨_, Tryd.underlying70, rfl⟩, let ⟨i, a, _, c, _⟩ := info_of inf70; ⟨i, a, c⟩⟩
instance : TZeroC Tryd.prog 71 [.nilFunc] := ⟨let ⟨i, a, b, _, _⟩ := info_of inf71; ⟨i, _, a, b, rfl⟩⟩
instance : TCell Tryd.prog 71 := ⟨⟨_, Tryd.underlying71, rfl⟩, let ⟨i, a, _, c, _⟩ := info_of inf71; ⟨i, a, c⟩⟩
instance : TZeroC Tryd.prog 73 [.nilFunc] := ⟨let ⟨i, a, b, _, _⟩ := info_of inf73; ⟨i, _, a, b, rfl⟩⟩
instance : TCell Tryd.prog 73 := ⟨⟨_, Tryd.underlying73, rfl⟩, let ⟨i, a, _, c, _⟩ := info_of inf73; ⟨i, a, c⟩⟩
instance : TZeroC Tryd.prog 74 [(.string ByteArray.empty), (.string ByteArray.empty), (.string ByteArray.empty), (.string ByteArray.empty), (.string ByteArray.empty), (.string ByteArray.empty), (.string ByteArray.empty), (.string ByteArray.empty), (.string ByteArray.empty), (.string ByteArray.empty), (.string ByteArray.empty), (.string ByteArray.empty), (.string ByteArray.empty), (.string ByteArray.empty), (.string ByteArray.empty), (.string ByteArray.empty)] := ⟨let ⟨i, a, b, _, _⟩ := info_of inf74; ⟨i, _, a, b, rfl⟩⟩
instance : TAgg Tryd.prog 74 16 := ⟨⟨_, Tryd.underlying74, rfl⟩, let ⟨i, a, _, c, _⟩ := info_of inf74; ⟨i, a, c⟩⟩
instance : TArr Tryd.prog 74 16 1 := ⟨let ⟨i, a, _, c, _⟩ := info_of inf9; ⟨_, i, Tryd.underlying74, a, c⟩⟩
instance : TZeroC Tryd.prog 75 [.nilFunc] := ⟨let ⟨i, a, b, _, _⟩ := info_of inf75; ⟨i, _, a, b, rfl⟩⟩
instance : TCell Tryd.prog 75 := ⟨⟨_, Tryd.underlying75, rfl⟩, let ⟨i, a, _, c, _⟩ := info_of inf75; ⟨i, a, c⟩⟩
instance : TZeroC Tryd.prog 76 [(.slice none 0 0)] := ⟨let ⟨i, a, b, _, _⟩ := info_of inf76; ⟨i, _, a, b, rfl⟩⟩
instance : TCell Tryd.prog 76 := ⟨⟨_, Tryd.underlying76, rfl⟩, let ⟨i, a, _, c, _⟩ := info_of inf76; ⟨i, a, c⟩⟩
instance : TSlice Tryd.prog 76 3 1 := ⟨let ⟨i, a, _, c, _⟩ := info_of inf3; ⟨i, Tryd.underlying76, a, c⟩⟩
instance : TElem Tryd.prog 76 3 1 8 [(.int .i64 0)] := ⟨let ⟨i, a, b, c, d⟩ := info_of inf3; ⟨i, _, Tryd.underlying76, a, c, d, b, rfl, rfl⟩⟩
instance : TZeroC Tryd.prog 77 [.nilFunc] := ⟨let ⟨i, a, b, _, _⟩ := info_of inf77; ⟨i, _, a, b, rfl⟩⟩
instance : TCell Tryd.prog 77 := ⟨⟨_, Tryd.underlying77, rfl⟩, let ⟨i, a, _, c, _⟩ := info_of inf77; ⟨i, a, c⟩⟩
instance : TZeroC Tryd.prog 78 [.nilFunc] := ⟨let ⟨i, a, b, _, _⟩ := info_of inf78; ⟨i, _, a, b, rfl⟩⟩
instance : TCell Tryd.prog 78 := ⟨⟨_, Tryd.underlying78, rfl⟩, let ⟨i, a, _, c, _⟩ := info_of inf78; ⟨i, a, c⟩⟩
instance : TZeroC Tryd.prog 79 [.nilFunc] := ⟨let ⟨i, a, b, _, _⟩ := info_of inf79; ⟨i, _, a, b, rfl⟩⟩
instance : TCell Tryd.prog 79 := ⟨⟨_, Tryd.underlying79, rfl⟩, let ⟨i, a, _, c, _⟩ := info_of inf79; ⟨i, a, c⟩⟩
instance : TZeroC Tryd.prog 80 [.nilFunc] := ⟨let ⟨i, a, b, _, _⟩ := info_of inf80; ⟨i, _, a, b, rfl⟩⟩
instance : TCell Tryd.prog 80 := ⟨⟨_, Tryd.underlying80, rfl⟩, let ⟨i, a, _, c, _⟩ := info_of inf80; ⟨i, a, c⟩⟩
instance : TZeroC Tryd.prog 81 [.nilFunc] := ⟨let ⟨i, a, b, _, _⟩ := info_of inf81; ⟨i, _, a, b, rfl⟩⟩
instance : TCell Tryd.prog 81 := ⟨⟨_, Tryd.underlying81, rfl⟩, let ⟨i, a, _, c, _⟩ := info_of inf81; ⟨i, a, c⟩⟩
instance : TZeroC Tryd.prog 82 [.nilFunc] := ⟨let ⟨i, a, b, _, _⟩ := info_of inf82; ⟨i, _, a, b, rfl⟩⟩
instance : TCell Tryd.prog 82 := ⟨⟨_, Tryd.underlying82, rfl⟩, let ⟨i, a, _, c, _⟩ := info_of inf82; ⟨i, a, c⟩⟩
instance : TZeroC Tryd.prog 83 [(.pointer none)] := ⟨let ⟨i, a, b, _, _⟩ := info_of inf83; ⟨i, _, a, b, rfl⟩⟩
instance : TCell Tryd.prog 83 := ⟨⟨_, Tryd.underlying83, rfl⟩, let ⟨i, a, _, c, _⟩ := info_of inf83; ⟨i, a, c⟩⟩
instance : TPtr Tryd.prog 83 := ⟨_, Tryd.underlying83⟩
instance : TZeroC Tryd.prog 84 [.nilFunc] := ⟨let ⟨i, a, b, _, _⟩ := info_of inf84; ⟨i, _, a, b, rfl⟩⟩
instance : TCell Tryd.prog 84 := ⟨⟨_, Tryd.underlying84, rfl⟩, let ⟨i, a, _, c, _⟩ := info_of inf84; ⟨i, a, c⟩⟩
instance : TZeroC Tryd.prog 85 [(.pointer none)] := ⟨let ⟨i, a, b, _, _⟩ := info_of inf85; ⟨i, _, a, b, rfl⟩⟩
instance : TCell Tryd.prog 85 := ⟨⟨_, Tryd.underlying85, rfl⟩, let ⟨i, a, _, c, _⟩ := info_of inf85; ⟨i, a, c⟩⟩
instance : TPtr Tryd.prog 85 := ⟨_, Tryd.underlying85⟩
instance : TZeroC Tryd.prog 86 [(.slice none 0 0)] := ⟨let ⟨i, a, b, _, _⟩ := info_of inf86; ⟨i, _, a, b, rfl⟩⟩
instance : TCell Tryd.prog 86 := ⟨⟨_, Tryd.underlying86, rfl⟩, let ⟨i, a, _, c, _⟩ := info_of inf86; ⟨i, a, c⟩⟩
instance : TSlice Tryd.prog 86 5 1 := ⟨let ⟨i, a, _, c, _⟩ := info_of inf5; ⟨i, Tryd.underlying86, a, c⟩⟩
instance : TElem Tryd.prog 86 5 1 1 [(.int .u8 0)] := ⟨let ⟨i, a, b, c, d⟩ := info_of inf5; ⟨i, _, Tryd.underlying86, a, c, d, b, rfl, rfl⟩⟩
instance : TZeroC Tryd.prog 87 [(.pointer none), (.slice none 0 0)] := ⟨let ⟨i, a, b, _, _⟩ := info_of inf87; ⟨i, _, a, b, rfl⟩⟩
instance : TAgg Tryd.prog 87 2 := ⟨⟨_, Tryd.underlying87, rfl⟩, let ⟨i, a, _, c, _⟩ := info_of inf87; ⟨i, a, c⟩⟩
instance : TFld Tryd.prog 87 0 0 := ⟨let ⟨i, a, _, c, _⟩ := info_of inf85; ⟨_, _, i, Tryd.underlying87, rfl, rfl, a, by rw [c]; decide⟩⟩
instance : TFld Tryd.prog 87 1 1 := ⟨let ⟨i, a, _, c, _⟩ := info_of inf86; ⟨_, _, i, Tryd.underlying87, rfl, rfl, a, by rw [c]; decide⟩⟩
instance : TFldV Tryd.prog 87 0 0 := ⟨⟨_, _, _, Tryd.underlying87, rfl, rfl, Tryd.underlying85, rfl⟩⟩
instance : TFldV Tryd.prog 87 1 1 := ⟨⟨_, _, _, Tryd.underlying87, rfl, rfl, Tryd.underlying86, rfl⟩⟩
instance : TStruct Tryd.prog 87 [(0, 1), (1, 1)] [(.pointer none), (.slice none 0 0)] := ⟨let ⟨i, a, b, _, _⟩ := info_of inf87; ⟨i, _, _, a, b, rfl, Tryd.underlying87, by kernel_rfl⟩⟩
instance : TZeroC Tryd.prog 88 [(.pointer none), (.slice none 0 0)] := ⟨let ⟨i, a, b, _, _⟩ := info_of inf88; ⟨i, _, a, b, rfl⟩⟩
instance : TAgg Tryd.prog 88 2 := ⟨⟨_, Tryd.underlying88, rfl⟩, let ⟨i, a, _, c, _⟩ := info_of inf88; ⟨i, a, c⟩⟩
instance : TFld Tryd.prog 88 0 0 := ⟨let ⟨i, a, _, c, _⟩ := info_of inf85; ⟨_, _, i, Tryd.underlying88, rfl, rfl, a, by rw [c]; decide⟩⟩
instance : TFld Tryd.prog 88 1 1 := ⟨let ⟨i, a, _, c, _⟩ := info_of inf86; ⟨_, _, i, Tryd.underlying88, rfl, rfl, a, by rw [c]; decide⟩⟩
instance : TFldV Tryd.prog 88 0 0 := ⟨⟨_, _, _, Tryd.underlying88, rfl, rfl, Tryd.underlying85, rfl⟩⟩
instance : TFldV Tryd.prog 88 1 1 := ⟨⟨_, _, _, Tryd.underlying88, rfl, rfl, Tryd.underlying86, rfl⟩⟩
instance : TStruct Tryd.prog 88 [(0, 1), (1, 1)] [(.pointer none), (.slice none 0 0)] := ⟨let ⟨i, a, b, _, _⟩ := info_of inf88; ⟨i, _, _, a, b, rfl, Tryd.underlying88, by kernel_rfl⟩⟩
instance : TZeroC Tryd.prog 89 [.nilIface] := ⟨let ⟨i, a, b, _, _⟩ := info_of inf89; ⟨i, _, a, b, rfl⟩⟩
instance : TCell Tryd.prog 89 := ⟨⟨_, Tryd.underlying89, rfl⟩, let ⟨i, a, _, c, _⟩ := info_of inf89; ⟨i, a, c⟩⟩
instance : TIfc Tryd.prog 89 := ⟨_, Tryd.underlying89⟩
instance : TZeroC Tryd.prog 90 [.nilIface] := ⟨let ⟨i, a, b, _, _⟩ := info_of inf90; ⟨i, _, a, b, rfl⟩⟩
instance : TCell Tryd.prog 90 := ⟨⟨_, Tryd.underlying90, rfl⟩, let ⟨i, a, _, c, _⟩ := info_of inf90; ⟨i, a, c⟩⟩
instance : TIfc Tryd.prog 90 := ⟨_, Tryd.underlying90⟩
instance : TZeroC Tryd.prog 92 [.nilFunc] := ⟨let ⟨i, a, b, _, _⟩ := info_of inf92; ⟨i, _, a, b, rfl⟩⟩
instance : TCell Tryd.prog 92 := ⟨⟨_, Tryd.underlying92, rfl⟩, let ⟨i, a, _, c, _⟩ := info_of inf92; ⟨i, a, c⟩⟩
instance : TZeroC Tryd.prog 93 [.nilFunc] := ⟨let ⟨i, a, b, _, _⟩ := info_of inf93; ⟨i, _, a, b, rfl⟩⟩
instance : TCell Tryd.prog 93 := ⟨⟨_, Tryd.underlying93, rfl⟩, let ⟨i, a, _, c, _⟩ := info_of inf93; ⟨i, a, c⟩⟩
instance : TZeroC Tryd.prog 94 [.nilFunc] := ⟨let ⟨i, a, b, _, _⟩ := info_of inf94; ⟨i, _, a, b, rfl⟩⟩
instance : TCell Tryd.prog 94 := ⟨⟨_, Tryd.underlying94, rfl⟩, let ⟨i, a, _, c, _⟩ := info_of inf94; ⟨i, a, c⟩⟩
instance : TZeroC Tryd.prog 95 [.nilFunc] := ⟨let ⟨i, a, b, _, _⟩ := info_of inf95; ⟨i, _, a, b, rfl⟩⟩
instance : TCell Tryd.prog 95 := ⟨⟨_, Tryd.underlying95, rfl⟩, let ⟨i, a, _, c, _⟩ := info_of inf95; ⟨i, a, c⟩⟩
instance : TZeroC Tryd.prog 96 [(.pointer none)] := ⟨let ⟨i, a, b, _, _⟩ := info_of inf96; ⟨i, _, a, b, rfl⟩⟩
instance : TCell Tryd.prog 96 := ⟨⟨_, Tryd.underlying96, rfl⟩, let ⟨i, a, _, c, _⟩ := info_of inf96; ⟨i, a, c⟩⟩
instance : TPtr Tryd.prog 96 := ⟨_, Tryd.underlying96⟩
instance : TZeroC Tryd.prog 97 [.nilFunc] := ⟨let ⟨i, a, b, _, _⟩ := info_of inf97; ⟨i, _, a, b, rfl⟩⟩
instance : TCell Tryd.prog 97 := ⟨⟨_, Tryd.underlying97, rfl⟩, let ⟨i, a, _, c, _⟩ := info_of inf97; ⟨i, a, c⟩⟩
instance : TZeroC Tryd.prog 98 [.nilFunc] := ⟨let ⟨i, a, b, _, _⟩ := info_of inf98; ⟨i, _, a, b, rfl⟩⟩
instance : TCell Tryd.prog 98 := ⟨⟨_, Tryd.underlying98, rfl⟩, let ⟨i, a, _, c, _⟩ := info_of inf98; ⟨i, a, c⟩⟩
instance : TZeroC Tryd.prog 99 [.nilFunc] := ⟨let ⟨i, a, b, _, _⟩ := info_of inf99; ⟨i, _, a, b, rfl⟩⟩
instance : TCell Tryd.prog 99 := ⟨⟨_, Tryd.underlying99, rfl⟩, let ⟨i, a, _, c, _⟩ := info_of inf99; ⟨i, a, c⟩⟩
instance : TZeroC Tryd.prog 100 [.nilFunc] := ⟨let ⟨i, a, b, _, _⟩ := info_of inf100; ⟨i, _, a, b, rfl⟩⟩
instance : TCell Tryd.prog 100 := ⟨⟨_, Tryd.underlying100, rfl⟩, let ⟨i, a, _, c, _⟩ := info_of inf100; ⟨i, a, c⟩⟩
instance : TZeroC Tryd.prog 101 [.nilFunc] := ⟨let ⟨i, a, b, _, _⟩ := info_of inf101; ⟨i, _, a, b, rfl⟩⟩
instance : TCell Tryd.prog 101 := ⟨⟨_, Tryd.underlying101, rfl⟩, let ⟨i, a, _, c, _⟩ := info_of inf101; ⟨i, a, c⟩⟩
instance : TZeroC Tryd.prog 102 [.nilFunc] := ⟨let ⟨i, a, b, _, _⟩ := info_of inf102; ⟨i, _, a, b, rfl⟩⟩
instance : TCell Tryd.prog 102 := ⟨⟨_, Tryd.underlying102, rfl⟩, let ⟨i, a, _, c, _⟩ := info_of inf102; ⟨i, a, c⟩⟩
instance : TZeroC Tryd.prog 103 [(.int .u8 0), (.int .u8 0), (.int .u8 0), (.int .u8 0), (.int .u8 0), (.int .u8 0), (.int .u8 0), (.int .u8 0), (.int .u8 0), (.int .u8 0), (.int .u8 0), (.int .u8 0), (.int .u8 0), (.int .u8 0), (.int .u8 0), (.int .u8 0), (.int .u8 0), (.int .u8 0), (.int .u8 0), (.int .u8 0), (.int .u8 0), (.int .u8 0), (.int .u8 0), (.int .u8 0)] := ⟨let ⟨i, a, b, _, _⟩ := info_of inf103; ⟨i, _, a, b, rfl⟩⟩
instance : TAgg Tryd.prog 103 24 := ⟨⟨_, Tryd.underlying103, rfl⟩, let ⟨i, a, _, c, _⟩ := info_of inf103; ⟨i, a, c⟩⟩
instance : TArr Tryd.prog 103 24 1 := ⟨let ⟨i, a, _, c, _⟩ := info_of inf5; ⟨_, i, Tryd.underlying103, a, c⟩⟩
instance : TZeroC Tryd.prog 104 [.nilFunc] := ⟨let ⟨i, a, b, _, _⟩ := info_of inf104; ⟨i, _, a, b, rfl⟩⟩
instance : TCell Tryd.prog 104 := ⟨⟨_, Tryd.underlying104, rfl⟩, let ⟨i, a, _, c, _⟩ := info_of inf104; ⟨i, a, c⟩⟩
instance : TZeroC Tryd.prog 105 [.nilFunc] := ⟨let ⟨i, a, b, _, _⟩ := info_of inf105; ⟨i, _, a, b, rfl⟩⟩
instance : TCell Tryd.prog 105 := ⟨⟨_, Tryd.underlying105, rfl⟩, let ⟨i, a, _, c, _⟩ := info_of inf105; ⟨i, a, c⟩⟩
instance : TZeroC Tryd.prog 107 [.nilFunc] := ⟨let ⟨i, a, b, _, _⟩ := info_of inf107; ⟨i, _, a, b, rfl⟩⟩
instance : TCell Tryd.prog 107 := ⟨⟨_, Tryd.underlying107, rfl⟩, let ⟨i, a, _, c, _⟩ := info_of inf107; ⟨i, a, c⟩⟩
instance : TZeroC Tryd.prog 108 [.nilFunc] := ⟨let ⟨i, a, b, _, _⟩ := info_of inf108; ⟨i, _, a, b, rfl⟩⟩
instance : TCell Tryd.prog 108 := ⟨⟨_, Tryd.underlying108, rfl⟩, let ⟨i, a, _, c, _⟩ := info_of inf108; ⟨i, a, c⟩⟩
instance : TZeroC Tryd.prog 109 [(.pointer none)] := ⟨let ⟨i, a, b, _, _⟩ := info_of inf109; ⟨i, _, a, b, rfl⟩⟩
instance : TCell Tryd.prog 109 := ⟨⟨_, Tryd.underlying109, rfl⟩, let ⟨i, a, _, c, _⟩ := info_of inf109; ⟨i, a, c⟩⟩
instance : TZeroC Tryd.prog 110 [.nilFunc] := ⟨let ⟨i, a, b, _, _⟩ := info_of inf110; ⟨i, _, a, b, rfl⟩⟩
instance : TCell Tryd.prog 110 := ⟨⟨_, Tryd.underlying110, rfl⟩, let ⟨i, a, _, c, _⟩ := info_of inf110; ⟨i, a, c⟩⟩
instance : TZeroC Tryd.prog 111 [.nilFunc] := ⟨let ⟨i, a, b, _, _⟩ := info_of inf111; ⟨i, _, a, b, rfl⟩⟩
instance : TCell Tryd.prog 111 := ⟨⟨_, Tryd.underlying111, rfl⟩, let ⟨i, a, _, c, _⟩ := info_of inf111; ⟨i, a, c⟩⟩
instance : TZeroC Tryd.prog 113 [.nilFunc] := ⟨let ⟨i, a, b, _, _⟩ := info_of inf113; ⟨i, _, a, b, rfl⟩⟩
instance : TCell Tryd.prog 113 := ⟨⟨_, Tryd.underlying113, rfl⟩, let ⟨i, a, _, c, _⟩ := info_of inf113; ⟨i, a, c⟩⟩
instance : TZeroC Tryd.prog 114 [.nilFunc] := ⟨let ⟨i, a, b, _, _⟩ := info_of inf114; ⟨i, _, a, b, rfl⟩⟩
instance : TCell Tryd.prog 114 := ⟨⟨_, Tryd.underlying114, rfl⟩, let ⟨i, a, _, c, _⟩ := info_of inf114; ⟨i, a, c⟩⟩
instance : TZeroC Tryd.prog 115 [(.int .i64 0)] := ⟨let ⟨i, a, b, _, _⟩ := info_of inf115; ⟨i, _, a, b, rfl⟩⟩
instance : TCell Tryd.prog 115 := ⟨⟨_, Tryd.underlying115, rfl⟩, let ⟨i, a, _, c, _⟩ := info_of inf115; ⟨i, a, c⟩⟩
instance : TInt Tryd.prog 115 .i64 := ⟨Tryd.underlying115⟩
instance : TZeroC Tryd.prog 117 [.nilFunc] := ⟨let ⟨i, a, b, _, _⟩ := info_of inf117; ⟨i, _, a, b, rfl⟩⟩
instance : TCell Tryd.prog 117 := ⟨⟨_, Tryd.underlying117, rfl⟩, let ⟨i, a, _, c, _⟩ := info_of inf117; ⟨i, a, c⟩⟩
instance : TZeroC Tryd.prog 118 [(.pointer none)] := ⟨let ⟨i, a, b, _, _⟩ := info_of inf118; ⟨i, _, a, b, rfl⟩⟩
instance : TCell Tryd.prog 118 := ⟨⟨_, Tryd.underlying118, rfl⟩, let ⟨i, a, _, c, _⟩ := info_of inf118; ⟨i, a, c⟩⟩
instance : TPtr Tryd.prog 118 := ⟨_, Tryd.underlying118⟩
instance : TZeroC Tryd.prog 119 [.nilFunc] := ⟨let ⟨i, a, b, _, _⟩ := info_of inf119; ⟨i, _, a, b, rfl⟩⟩
instance : TCell Tryd.prog 119 := ⟨⟨_, Tryd.underlying119, rfl⟩, let ⟨i, a, _, c, _⟩ := info_of inf119; ⟨i, a, c⟩⟩
instance : TZeroC Tryd.prog 120 [.nilFunc] := ⟨let ⟨i, a, b, _, _⟩ := info_of inf120; ⟨i, _, a, b, rfl⟩⟩
instance : TCell Tryd.prog 120 := ⟨⟨_, Tryd.underlying120, rfl⟩, let ⟨i, a, _, c, _⟩ := info_of inf120; ⟨i, a, c⟩⟩
instance : TZeroC Tryd.prog 121 [.nilFunc] := ⟨let ⟨i, a, b, _, _⟩ := info_of inf121; ⟨i, _, a, b, rfl⟩⟩
instance : TCell Tryd.prog 121 := ⟨⟨_, Tryd.underlying121, rfl⟩, let ⟨i, a, _, c, _⟩ := info_of inf121; ⟨i, a, c⟩⟩
instance : TZeroC Tryd.prog 122 [.nilFunc] := ⟨let ⟨i, a, b, _, _⟩ := info_of inf122; ⟨i, _, a, b, rfl⟩⟩
instance : TCell Tryd.prog 122 := ⟨⟨_, Tryd.underlying122, rfl⟩, let ⟨i, a, _, c, _⟩ := info_of inf122; ⟨i, a, c⟩⟩
instance : TZeroC Tryd.prog 123 [(.int .u64 0), (.int .u64 0), (.int .u64 0), (.int .u64 0), (.int .u64 0), (.int .u64 0), (.int .u64 0), (.int .u64 0), (.int .u64 0), (.int .u64 0), (.int .u64 0), (.int .u64 0), (.int .u64 0), (.int .u64 0), (.int .u64 0), (.int .u64 0), (.int .u64 0), (.int .u64 0), (.int .u64 0), (.int .u64 0)] := ⟨let ⟨i, a, b, _, _⟩ := info_of inf123; ⟨i, _, a, b, rfl⟩⟩
instance : TAgg Tryd.prog 123 20 := ⟨⟨_, Tryd.underlying123, rfl⟩, let ⟨i, a, _, c, _⟩ := info_of inf123; ⟨i, a, c⟩⟩
instance : TArr Tryd.prog 123 20 1 := ⟨let ⟨i, a, _, c, _⟩ := info_of inf35; ⟨_, i, Tryd.underlying123, a, c⟩⟩
instance : TZeroC Tryd.prog 124 [(.int .u32 0)] := ⟨let ⟨i, a, b, _, _⟩ := info_of inf124; ⟨i, _, a, b, rfl⟩⟩
instance : TCell Tryd.prog 124 := ⟨⟨_, Tryd.underlying124, rfl⟩, let ⟨i, a, _, c, _⟩ := info_of inf124; ⟨i, a, c⟩⟩
instance : TInt Tryd.prog 124 .u32 := ⟨Tryd.underlying124⟩
instance : TZeroC Tryd.prog 125 [(.int .u8 0), (.int .u8 0), (.int .u8 0), (.int .u8 0), (.int .u8 0), (.int .u8 0), (.int .u8 0), (.int .u8 0), (.int .u8 0), (.int .u8 0), (.int .u8 0), (.int .u8 0), (.int .u8 0), (.int .u8 0), (.int .u8 0), (.int .u8 0), (.int .u8 0), (.int .u8 0), (.int .u8 0), (.int .u8 0), (.int .u8 0), (.int .u8 0), (.int .u8 0), (.int .u8 0), (.int .u8 0), (.int .u8 0), (.int .u8 0), (.int .u8 0), (.int .u8 0), (.int .u8 0), (.int .u8 0), (.int .u8 0), (.int .u8 0), (.int .u8 0), (.int .u8 0), (.int .u8 0), (.int .u8 0), (.int .u8 0), (.int .u8 0), (.int .u8 0), (.int .u8 0), (.int .u8 0), (.int .u8 0), (.int .u8 0), (.int .u8 0), (.int .u8 0), (.int .u8 0), (.int .u8 0), (.int .u8 0), (.int .u8 0), (.int .u8 0), (.int .u8 0), (.int .u8 0), (.int .u8 0), (.int .u8 0), (.int .u8 0), (.int .u8 0), (.int .u8 0), (.int .u8 0), (.int .u8 0), (.int .u8 0), (.int .u8 0), (.int .u8 0), (.int .u8 0), (.int .u8 0)] := ⟨let ⟨i, a, b, _, _⟩ := info_of inf125; ⟨i, _, a, b, rfl⟩⟩
instance : TAgg Tryd.prog 125 65 := ⟨⟨_, Tryd.underlying125, rfl⟩, let ⟨i, a, _, c, _⟩ := info_of inf125; ⟨i, a, c⟩⟩
instance : TArr Tryd.prog 125 65 1 := ⟨let ⟨i, a, _, c, _⟩ := info_of inf5; ⟨_, i, Tryd.underlying125, a, c⟩⟩
instance : TZeroC Tryd.prog 126 [.nilFunc] := ⟨let ⟨i, a, b, _, _⟩ := info_of inf126; ⟨i, _, a, b, rfl⟩⟩
instance : TCell Tryd.prog 126 := ⟨⟨_, Tryd.underlying126, rfl⟩, let ⟨i, a, _, c, _⟩ := info_of inf126; ⟨i, a, c⟩⟩
instance : TZeroC Tryd.prog 127 [(.int .u64 0)] := ⟨let ⟨i, a, b, _, _⟩ := info_of inf127; ⟨i, _, a, b, rfl⟩⟩
instance : TCell Tryd.prog 127 := ⟨⟨_, Tryd.underlying127, rfl⟩, let ⟨i, a, _, c, _⟩ := info_of inf127; ⟨i, a, c⟩⟩
instance : TInt Tryd.prog 127 .u64 := ⟨Tryd.underlying127⟩
instance : TZeroC Tryd.prog 128 [.nilFunc] := ⟨let ⟨i, a, b, _, _⟩ := info_of inf128; ⟨i, _, a, b, rfl⟩⟩
instance : TCell Tryd.prog 128 := ⟨⟨_, Tryd.underlying128, rfl⟩, let ⟨i, a, _, c, _⟩ := info_of inf128; ⟨i, a, c⟩⟩
instance : TZeroC Tryd.prog 129 [.nilFunc] := ⟨let ⟨i, a, b, _, _⟩ := info_of inf129; ⟨i, _, a, b, rfl⟩⟩
instance : TCell Tryd.prog 129 := ⟨⟨_, Tryd.underlying129, rfl⟩, let ⟨i, a, _, c, _⟩ := info_of inf129; ⟨i, a, c⟩⟩
instance : TZeroC Tryd.prog 131 [.nilFunc] := ⟨let ⟨i, a, b, _, _⟩ := info_of inf131; ⟨i, _, a, b, rfl⟩⟩
instance : TCell Tryd.prog 131 := ⟨⟨_, Tryd.underlying131, rfl⟩, let ⟨i, a, _, c, _⟩ := info_of inf131; ⟨i, a, c⟩⟩
instance : TZeroC Tryd.prog 132 [.nilFunc] := ⟨let ⟨i, a, b, _, _⟩ := info_of inf132; ⟨i, _, a, b, rfl⟩⟩
instance : TCell Tryd.prog 132 := ⟨⟨_, Tryd.underlying132, rfl⟩, let ⟨i, a, _, c, _⟩ := info_of inf132; ⟨i, a, c⟩⟩
instance : TZeroC Tryd.prog 133 [(.string ByteArray.empty), (.string ByteArray.empty), .nilIface] := ⟨let ⟨i, a, b, _, _⟩ := info_of inf133; ⟨i, _, a, b, rfl⟩⟩
instance : TAgg Tryd.prog 133 3 := ⟨⟨_, Tryd.underlying133, rfl⟩, let ⟨i, a, _, c, _⟩ := info_of inf133; ⟨i, a, c⟩⟩
instance : TFld Tryd.prog 133 0 0 := ⟨let ⟨i, a, _, c, _⟩ := info_of inf9; ⟨_, _, i, Tryd.underlying133, rfl, rfl, a, by rw [c]; decide⟩⟩
instance : TFld Tryd.prog 133 1 1 := ⟨let ⟨i, a, _, c, _⟩ := info_of inf9; ⟨_, _, i, Tryd.underlying133, rfl, rfl, a, by rw [c]; decide⟩⟩
instance : TFld Tryd.prog 133 2 2 := ⟨let ⟨i, a, _, c, _⟩ := info_of inf90; ⟨_, _, i, Tryd.underlying133, rfl, rfl, a, by rw [c]; decide⟩⟩
instance : TFldV Tryd.prog 133 0 0 := ⟨⟨_, _, _, Tryd.underlying133, rfl, rfl, Tryd.underlying9, rfl⟩⟩
instance : TFldV Tryd.prog 133 1 1 := ⟨⟨_, _, _, Tryd.underlying133, rfl, rfl, Tryd.underlying9, rfl⟩⟩
instance : TFldV Tryd.prog 133 2 2 := ⟨⟨_, _, _, Tryd.underlying133, rfl, rfl, Tryd.underlying90, rfl⟩⟩
instance : TStruct Tryd.prog 133 [(0, 1), (1, 1), (2, 1)] [(.string ByteArray.empty), (.string ByteArray.empty), .nilIface] := ⟨let ⟨i, a, b, _, _⟩ := info_of inf133; ⟨i, _, _, a, b, rfl, Tryd.underlying133, by kernel_rfl⟩⟩
instance : TZeroC Tryd.prog 134 [(.string ByteArray.empty), (.string ByteArray.empty), .nilIface] := ⟨let ⟨i, a, b, _, _⟩ := info_of inf134; ⟨i, _, a, b, rfl⟩⟩
instance : TAgg Tryd.prog 134 3 := ⟨⟨_, Tryd.underlying134, rfl⟩, let ⟨i, a, _, c, _⟩ := info_of inf134; ⟨i, a, c⟩⟩
instance : TFld Tryd.prog 134 0 0 := ⟨let ⟨i, a, _, c, _⟩ := info_of inf9; ⟨_, _, i, Tryd.underlying134, rfl, rfl, a, by rw [c]; decide⟩⟩
instance : TFld Tryd.prog 134 1 1 := ⟨let ⟨i, a, _, c, _⟩ := info_of inf9; ⟨_, _, i, Tryd.underlying134, rfl, rfl, a, by rw [c]; decide⟩⟩
instance : TFld Tryd.prog 134 2 2 := ⟨let ⟨i, a, _, c, _⟩ := info_of inf90; ⟨_, _, i, Tryd.underlying134, rfl, rfl, a, by rw [c]; decide⟩⟩
instance : TFldV Tryd.prog 134 0 0 := ⟨⟨_, _, _, Tryd.underlying134, rfl, rfl, Tryd.underlying9, rfl⟩⟩
instance : TFldV Tryd.prog 134 1 1 := ⟨⟨_, _, _, Tryd.underlying134, rfl, rfl, Tryd.underlying9, rfl⟩⟩
instance : TFldV Tryd.prog 134 2 2 := ⟨⟨_, _, _, Tryd.underlying134, rfl, rfl, Tryd.underlying90, rfl⟩⟩
instance : TStruct Tryd.prog 134 [(0, 1), (1, 1), (2, 1)] [(.string ByteArray.empty), (.string ByteArray.empty), .nilIface] := ⟨let ⟨i, a, b, _, _⟩ := info_of inf134; ⟨i, _, _, a, b, rfl, Tryd.underlying134, by kernel_rfl⟩⟩
instance : TZeroC Tryd.prog 135 [.nilFunc] := ⟨let ⟨i, a, b, _, _⟩ := info_of inf135; ⟨i, _, a, b, rfl⟩⟩
instance : TCell Tryd.prog 135 := ⟨⟨_, Tryd.underlying135, rfl⟩, let ⟨i, a, _, c, _⟩ := info_of inf135; ⟨i, a, c⟩⟩
instance : TZeroC Tryd.prog 136 [.nilFunc] := ⟨let ⟨i, a, b, _, _⟩ := info_of inf136; ⟨i, _, a, b, rfl⟩⟩
instance : TCell Tryd.prog 136 := ⟨⟨_, Tryd.underlying136, rfl⟩, let ⟨i, a, _, c, _⟩ := info_of inf136; ⟨i, a, c⟩⟩
instance : TZeroC Tryd.prog 137 [(.int .u8 0), (.int .u8 0), (.int .u8 0), (.int .u8 0), (.int .u8 0), (.int .u8 0), (.int .u8 0), (.int .u8 0), (.int .u8 0), (.int .u8 0), (.int .u8 0), (.int .u8 0), (.int .u8 0), (.int .u8 0), (.int .u8 0), (.int .u8 0), (.int .u8 0), (.int .u8 0), (.int .u8 0), (.int .u8 0), (.int .u8 0), (.int .u8 0), (.int .u8 0), (.int .u8 0), (.int .u8 0), (.int .u8 0), (.int .u8 0), (.int .u8 0), (.int .u8 0), (.int .u8 0), (.int .u8 0), (.int .u8 0), (.int .u8 0), (.int .u8 0), (.int .u8 0), (.int .u8 0), (.int .u8 0), (.int .u8 0), (.int .u8 0), (.int .u8 0), (.int .u8 0), (.int .u8 0), (.int .u8 0), (.int .u8 0), (.int .u8 0), (.int .u8 0), (.int .u8 0), (.int .u8 0), (.int .u8 0), (.int .u8 0), (.int .u8 0), (.int .u8 0), (.int .u8 0), (.int .u8 0), (.int .u8 0), (.int .u8 0), (.int .u8 0), (.int .u8 0), (.int .u8 0), (.int .u8 0), (.int .u8 0), (.int .u8 0), (.int .u8 0), (.int .u8 0), (.int .u8 0), (.int .u8 0), (.int .u8 0), (.int .u8 0), (.int .u8 0), (.int .u8 0), (.int .u8 0), (.int .u8 0), (.int .u8 0), (.int .u8 0), (.int .u8 0), (.int .u8 0), (.int .u8 0), (.int .u8 0), (.int .u8 0), (.int .u8 0), (.int .u8 0), (.int .u8 0), (.int .u8 0), (.int .u8 0), (.int .u8 0), (.int .u8 0), (.int .u8 0), (.int .u8 0), (.int .u8 0), (.int .u8 0), (.int .u8 0), (.int .u8 0), (.int .u8 0), (.int .u8 0), (.int .u8 0), (.int .u8 0), (.int .u8 0), (.int .u8 0), (.int .u8 0), (.int .u8 0), (.int .u8 0), (.int .u8 0), (.int .u8 0), (.int .u8 0), (.int .u8 0), (.int .u8 0), (.int .u8 0), (.int .u8 0), (.int .u8 0), (.int .u8 0), (.int .u8 0), (.int .u8 0), (.int .u8 0), (.int .u8 0), (.int .u8 0), (.int .u8 0), (.int .u8 0), (.int .u8 0), (.int .u8 0), (.int .u8 0), (.int .u8 0), (.int .u8 0), (.int .u8 0), (.int .u8 0), (.int .u8 0), (.int .u8 0), (.int .u8 0), (.int .u8 0), (.int .u8 0), (.int .u8 0), (.int .u8 0), (.int .u8 0), (.int .u8 0), (.int .u8 0), (.int .u8 0), (.int .u8 0), (.int .u8 0), (.int .u8 0), (.int .u8 0), (.int .u8 0), (.int .u8 0), (.int .u8 0), (.int .u8 0), (.int .u8 0), (.int .u8 0), (.int .u8 0), (.int .u8 0), (.int .u8 0), (.int .u8 0), (.int .u8 0), (.int .u8 0), (.int .u8 0), (.int .u8 0), (.int .u8 0), (.int .u8 0), (.int .u8 0), (.int .u8 0), (.int .u8 0), (.int .u8 0), (.int .u8 0), (.int .u8 0), (.int .u8 0), (.int .u8 0), (.int .u8 0), (.int .u8 0), (.int .u8 0), (.int .u8 0), (.int .u8 0), (.int .u8 0), (.int .u8 0), (.int .u8 0), (.int .u8 0), (.int .u8 0), (.int .u8 0), (.int .u8 0), (.int .u8 0), (.int .u8 0), (.int .u8 0), (.int .u8 0), (.int .u8 0), (.int .u8 0), (.int .u8 0), (.int .u8 0), (.int .u8 0), (.int .u8 0), (.int .u8 0), (.int .u8 0), (.int .u8 0), (.int .u8 0), (.int .u8 0), (.int .u8 0), (.int .u8 0), (.int .u8 0), (.int .u8 0), (.int .u8 0), (.int .u8 0), (.int .u8 0), (.int .u8 0), (.int .u8 0), (.int .u8 0), (.int .u8 0), (.int .u8 0), (.int .u8 0), (.int .u8 0), (.int .u8 0), (.int .u8 0), (.int .u8 0), (.int .u8 0), (.int .u8 0), (.int .u8 0), (.int .u8 0), (.int .u8 0), (.int .u8 0), (.int .u8 0), (.int .u8 0), (.int .u8 0), (.int .u8 0), (.int .u8 0), (.int .u8 0), (.int .u8 0), (.int .u8 0), (.int .u8 0), (.int .u8 0), (.int .u8 0), (.int .u8 0), (.int .u8 0), (.int .u8 0), (.int .u8 0), (.int .u8 0), (.int .u8 0), (.int .u8 0), (.int .u8 0), (.int .u8 0), (.int .u8 0), (.int .u8 0), (.int .u8 0), (.int .u8 0), (.int .u8 0), (.int .u8 0), (.int .u8 0), (.int .u8 0), (.int .u8 0), (.int .u8 0), (.int .u8 0), (.int .u8 0), (.int .u8 0), (.int .u8 0), (.int .u8 0), (.int .u8 0), (.int .u8 0), (.int .u8 0), (.int .u8 0), (.int .u8 0), (.int .u8 0), (.int .u8 0), (.int .u8 0)] := ⟨let ⟨i, a, b, _, _⟩ := info_of inf137; ⟨i, _, a, b, rfl⟩⟩
instance : TAgg Tryd.prog 137 256 := ⟨⟨_, Tryd.underlying137, rfl⟩, let ⟨i, a, _, c, _⟩ := info_of inf137; ⟨i, a, c⟩⟩
instance : TArr Tryd.prog 137 256 1 := ⟨let ⟨i, a, _, c, _⟩ := info_of inf5; ⟨_, i, Tryd.underlying137, a, c⟩⟩
instance : TZeroC Tryd.prog 138 [(.int .u8 0), (.int .u8 0)] := ⟨let ⟨i, a, b, _, _⟩ := info_of inf138; ⟨i, _, a, b, rfl⟩⟩
instance : TAgg Tryd.prog 138 2 := ⟨⟨_, Tryd.underlying138, rfl⟩, let ⟨i, a, _, c, _⟩ := info_of inf138; ⟨i, a, c⟩⟩
instance : TFld Tryd.prog 138 0 0 := ⟨let ⟨i, a, _, c, _⟩ := info_of inf5; ⟨_, _, i, Tryd.underlying138, rfl, rfl, a, by rw [c]; decide⟩⟩
instance : TFld Tryd.prog 138 1 1 := ⟨let ⟨i, a, _, c, _⟩ := info_of inf5; ⟨_, _, i, Tryd.underlying138, rfl, rfl, a, by rw [c]; decide⟩⟩
instance : TFldV Tryd.prog 138 0 0 := ⟨⟨_, _, _, Tryd.underlying138, rfl, rfl, Tryd.underlying5, rfl⟩⟩
instance : TFldV Tryd.prog 138 1 1 := ⟨⟨_, _, _, Tryd.underlying138, rfl, rfl, Tryd.underlying5, rfl⟩⟩
instance : TStruct Tryd.prog 138 [(0, 1), (1, 1)] [(.int .u8 0), (.int .u8 0)] := ⟨let ⟨i, a, b, _, _⟩ := info_of inf138; ⟨i, _, _, a, b, rfl, Tryd.underlying138, by kernel_rfl⟩⟩
instance : TZeroC Tryd.prog 139 [(.int .u8 0), (.int .u8 0)] := ⟨let ⟨i, a, b, _, _⟩ := info_of inf139; ⟨i, _, a, b, rfl⟩⟩
instance : TAgg Tryd.prog 139 2 := ⟨⟨_, Tryd.underlying139, rfl⟩, let ⟨i, a, _, c, _⟩ := info_of inf139; ⟨i, a, c⟩⟩
instance : TFld Tryd.prog 139 0 0 := ⟨let ⟨i, a, _, c, _⟩ := info_of inf5; ⟨_, _, i, Tryd.underlying139, rfl, rfl, a, by rw [c]; decide⟩⟩
instance : TFld Tryd.prog 139 1 1 := ⟨let ⟨i, a, _, c, _⟩ := info_of inf5; ⟨_, _, i, Tryd.underlying139, rfl, rfl, a, by rw [c]; decide⟩⟩
instance : TFldV Tryd.prog 139 0 0 := ⟨⟨_, _, _, Tryd.underlying139, rfl, rfl, Tryd.underlying5, rfl⟩⟩
instance : TFldV Tryd.prog 139 1 1 := ⟨⟨_, _, _, Tryd.underlying139, rfl, rfl, Tryd.underlying5, rfl⟩⟩
instance : TStruct Tryd.prog 139 [(0, 1), (1, 1)] [(.int .u8 0), (.int .u8 0)] := ⟨let ⟨i, a, b, _, _⟩ := info_of inf139; ⟨i, _, _, a, b, rfl, Tryd.underlying139, by kernel_rfl⟩⟩
instance : TZeroC Tryd.prog 140 [(.int .u8 0), (.int .u8 0), (.int .u8 0), (.int .u8 0), (.int .u8 0), (.int .u8 0), (.int .u8 0), (.int .u8 0), (.int .u8 0), (.int .u8 0), (.int .u8 0), (.int .u8 0), (.int .u8 0), (.int .u8 0), (.int .u8 0), (.int .u8 0), (.int .u8 0), (.int .u8 0), (.int .u8 0), (.int .u8 0), (.int .u8 0), (.int .u8 0), (.int .u8 0), (.int .u8 0), (.int .u8 0), (.int .u8 0), (.int .u8 0), (.int .u8 0), (.int .u8 0), (.int .u8 0), (.int .u8 0), (.int .u8 0)] := ⟨let ⟨i, a, b, _, _⟩ := info_of inf140; ⟨i, _, a, b, rfl⟩⟩
instance : TAgg Tryd.prog 140 32 := ⟨⟨_, Tryd.underlying140, rfl⟩, let ⟨i, a, _, c, _⟩ := info_of inf140; ⟨i, a, c⟩⟩
instance : TArr Tryd.prog 140 16 2 := ⟨let ⟨i, a, _, c, _⟩ := info_of inf139; ⟨_, i, Tryd.underlying140, a, c⟩⟩
instance : TZeroC Tryd.prog 142 [.nilFunc] := ⟨let ⟨i, a, b, _, _⟩ := info_of inf142; ⟨i, _, a, b, rfl⟩⟩
instance : TCell Tryd.prog 142 := ⟨⟨_, Tryd.underlying142, rfl⟩, let ⟨i, a, _, c, _⟩ := info_of inf142; ⟨i, a, c⟩⟩
instance : TZeroC Tryd.prog 143 [.nilFunc] := ⟨let ⟨i, a, b, _, _⟩ := info_of inf143; ⟨i, _, a, b, rfl⟩⟩
instance : TCell Tryd.prog 143 := ⟨⟨_, Tryd.underlying143, rfl⟩, let ⟨i, a, _, c, _⟩ := info_of inf143; ⟨i, a, c⟩⟩
instance : TZeroC Tryd.prog 144 [(.pointer none)] := ⟨let ⟨i, a, b, _, _⟩ := info_of inf144; ⟨i, _, a, b, rfl⟩⟩
instance : TCell Tryd.prog 144 := ⟨⟨_, Tryd.underlying144, rfl⟩, let ⟨i, a, _, c, _⟩ := info_of inf144; ⟨i, a, c⟩⟩
instance : TPtr Tryd.prog 144 := ⟨_, Tryd.underlying144⟩
instance : TZeroC Tryd.prog 145 [(.string ByteArray.empty)] := ⟨let ⟨i, a, b, _, _⟩ := info_of inf145; ⟨i, _, a, b, rfl⟩⟩
instance : TAgg Tryd.prog 145 1 := ⟨⟨_, Tryd.underlying145, rfl⟩, let ⟨i, a, _, c, _⟩ := info_of inf145; ⟨i, a, c⟩⟩
instance : TFld Tryd.prog 145 0 0 := ⟨let ⟨i, a, _, c, _⟩ := info_of inf9; ⟨_, _, i, Tryd.underlying145, rfl, rfl, a, by rw [c]; decide⟩⟩
instance : TFldV Tryd.prog 145 0 0 := ⟨⟨_, _, _, Tryd.underlying145, rfl, rfl, Tryd.underlying9, rfl⟩⟩
instance : TStruct Tryd.prog 145 [(0, 1)] [(.string ByteArray.empty)] := ⟨let ⟨i, a, b, _, _⟩ := info_of inf145; ⟨i, _, _, a, b, rfl, Tryd.underlying145, by kernel_rfl⟩⟩
instance : TZeroC Tryd.prog 146 [(.string ByteArray.empty)] := ⟨let ⟨i, a, b, _, _⟩ := info_of inf146; ⟨i, _, a, b, rfl⟩⟩
instance : TAgg Tryd.prog 146 1 := ⟨⟨_, Tryd.underlying146, rfl⟩, let ⟨i, a, _, c, _⟩ := info_of inf146; ⟨i, a, c⟩⟩
instance : TFld Tryd.prog 146 0 0 := ⟨let ⟨i, a, _, c, _⟩ := info_of inf9; ⟨_, _, i, Tryd.underlying146, rfl, rfl, a, by rw [c]; decide⟩⟩
instance : TFldV Tryd.prog 146 0 0 := ⟨⟨_, _, _, Tryd.underlying146, rfl, rfl, Tryd.underlying9, rfl⟩⟩
instance : TStruct Tryd.prog 146 [(0, 1)] [(.string ByteArray.empty)] := ⟨let ⟨i, a, b, _, _⟩ := info_of inf146; ⟨i, _, _, a, b, rfl, Tryd.underlying146, by kernel_rfl⟩⟩
instance : TZeroC Tryd.prog 147 [(.int .u8 0), (.int .u8 0), (.int .u8 0), (.int .u8 0), (.int .u8 0), (.int .u8 0), (.int .u8 0), (.int .u8 0), (.int .u8 0), (.int .u8 0), (.int .u8 0), (.int .u8 0), (.int .u8 0), (.int .u8 0), (.int .u8 0), (.int .u8 0), (.int .u8 0), (.int .u8 0), (.int .u8 0), (.int .u8 0), (.int .u8 0), (.int .u8 0), (.int .u8 0), (.int .u8 0), (.int .u8 0), (.int .u8 0), (.int .u8 0), (.int .u8 0), (.int .u8 0), (.int .u8 0), (.int .u8 0), (.int .u8 0)] := ⟨let ⟨i, a, b, _, _⟩ := info_of inf147; ⟨i, _, a, b, rfl⟩⟩
instance : TAgg Tryd.prog 147 32 := ⟨⟨_, Tryd.underlying147, rfl⟩, let ⟨i, a, _, c, _⟩ := info_of inf147; ⟨i, a, c⟩⟩
instance : TArr Tryd.prog 147 32 1 := ⟨let ⟨i, a, _, c, _⟩ := info_of inf5; ⟨_, i, Tryd.underlying147, a, c⟩⟩
instance : TZeroC Tryd.prog 148 [(.int .u8 0), (.int .u8 0), (.int .u8 0), (.int .u8 0), (.int .u8 0), (.int .u8 0), (.int .u8 0), (.int .u8 0), (.int .u8 0), (.int .u8 0), (.int .u8 0), (.int .u8 0), (.int .u8 0), (.int .u8 0), (.int .u8 0), (.int .u8 0), (.int .u8 0), (.int .u8 0), (.int .u8 0), (.int .u8 0), (.int .u8 0), (.int .u8 0), (.int .u8 0), (.int .u8 0), (.int .u8 0), (.int .u8 0), (.int .u8 0), (.int .u8 0), (.int .u8 0), (.int .u8 0), (.int .u8 0), (.int .u8 0), (.int .u8 0), (.int .u8 0), (.int .u8 0), (.int .u8 0), (.int .u8 0), (.int .u8 0), (.int .u8 0), (.int .u8 0), (.int .u8 0), (.int .u8 0), (.int .u8 0), (.int .u8 0), (.int .u8 0), (.int .u8 0), (.int .u8 0), (.int .u8 0), (.int .u8 0), (.int .u8 0), (.int .u8 0), (.int .u8 0), (.int .u8 0), (.int .u8 0), (.int .u8 0), (.int .u8 0), (.int .u8 0), (.int .u8 0), (.int .u8 0), (.int .u8 0), (.int .u8 0), (.int .u8 0), (.int .u8 0), (.int .u8 0)] := ⟨let ⟨i, a, b, _, _⟩ := info_of inf148; ⟨i, _, a, b, rfl⟩⟩
instance : TAgg Tryd.prog 148 64 := ⟨⟨_, Tryd.underlying148, rfl⟩, let ⟨i, a, _, c, _⟩ := info_of inf148; ⟨i, a, c⟩⟩
instance : TArr Tryd.prog 148 64 1 := ⟨let ⟨i, a, _, c, _⟩ := info_of inf5; ⟨_, i, Tryd.underlying148, a, c⟩⟩
instance : TZeroC Tryd.prog 149 [(.pointer none), (.pointer none), (.pointer none), (.string ByteArray.empty)] := ⟨let ⟨i, a, b, _, _⟩ := info_of inf149; ⟨i, _, a, b, rfl⟩⟩
instance : TAgg Tryd.prog 149 4 := ⟨⟨_, Tryd.underlying149, rfl⟩, let ⟨i, a, _, c, _⟩ := info_of inf149; ⟨i, a, c⟩⟩
instance : TFld Tryd.prog 149 3 3 := ⟨let ⟨i, a, _, c, _⟩ := info_of inf9; ⟨_, _, i, Tryd.underlying149, rfl, rfl, a, by rw [c]; decide⟩⟩
instance : TFldV Tryd.prog 149 3 3 := ⟨⟨_, _, _, Tryd.underlying149, rfl, rfl, Tryd.underlying9, rfl⟩⟩
instance : TZeroC Tryd.prog 151 [] := ⟨let ⟨i, a, b, _, _⟩ := info_of inf151; ⟨i, _, a, b, rfl⟩⟩
instance : TAgg Tryd.prog 151 0 := ⟨⟨_, Tryd.underlying151, rfl⟩, let ⟨i, a, _, c, _⟩ := info_of inf151; ⟨i, a, c⟩⟩
instance : TZeroC Tryd.prog 152 [] := ⟨let ⟨i, a, b, _, _⟩ := info_of inf152; ⟨i, _, a, b, rfl⟩⟩
instance : TAgg Tryd.prog 152 0 := ⟨⟨_, Tryd.underlying152, rfl⟩, let ⟨i, a, _, c, _⟩ := info_of inf152; ⟨i, a, c⟩⟩
instance : TFldA Tryd.prog 152 0 0 0 := ⟨let ⟨i, a, _, c, _⟩ := info_of inf151; ⟨_, _, _, i, Tryd.underlying152, rfl, rfl, Tryd.underlying151, rfl, a, c⟩⟩
instance : TStruct Tryd.prog 152 [(0, 0)] [] := ⟨let ⟨i, a, b, _, _⟩ := info_of inf152; ⟨i, _, _, a, b, rfl, Tryd.underlying152, by kernel_rfl⟩⟩
instance : TZeroC Tryd.prog 156 [.nilFunc] := ⟨let ⟨i, a, b, _, _⟩ := info_of inf156; ⟨i, _, a, b, rfl⟩⟩
instance : TCell Tryd.prog 156 := ⟨⟨_, Tryd.underlying156, rfl⟩, let ⟨i, a, _, c, _⟩ := info_of inf156; ⟨i, a, c⟩⟩
instance : TZeroC Tryd.prog 159 [(.int .u64 0), (.int .u64 0), (.int .u32 0), (.int .u8 0), (.int .u8 0), (.int .u8 0), (.int .u8 0), .nilFunc, (.pointer none), (.int .i32 0), (.int .i32 0)] := ⟨let ⟨i, a, b, _, _⟩ := info_of inf159; ⟨i, _, a, b, rfl⟩⟩
instance : TAgg Tryd.prog 159 11 := ⟨⟨_, Tryd.underlying159, rfl⟩, let ⟨i, a, _, c, _⟩ := info_of inf159; ⟨i, a, c⟩⟩
instance : TFld Tryd.prog 159 0 0 := ⟨let ⟨i, a, _, c, _⟩ := info_of inf12; ⟨_, _, i, Tryd.underlying159, rfl, rfl, a, by rw [c]; decide⟩⟩
instance : TFld Tryd.prog 159 1 1 := ⟨let ⟨i, a, _, c, _⟩ := info_of inf12; ⟨_, _, i, Tryd.underlying159, rfl, rfl, a, by rw [c]; decide⟩⟩
instance : TFld Tryd.prog 159 2 2 := ⟨let ⟨i, a, _, c, _⟩ := info_of inf124; ⟨_, _, i, Tryd.underlying159, rfl, rfl, a, by rw [c]; decide⟩⟩
instance : TFld Tryd.prog 159 4 4 := ⟨let ⟨i, a, _, c, _⟩ := info_of inf5; ⟨_, _, i, Tryd.underlying159, rfl, rfl, a, by rw [c]; decide⟩⟩
instance : TFld Tryd.prog 159 5 5 := ⟨let ⟨i, a, _, c, _⟩ := info_of inf5; ⟨_, _, i, Tryd.underlying159, rfl, rfl, a, by rw [c]; decide⟩⟩
instance : TFld Tryd.prog 159 7 7 := ⟨let ⟨i, a, _, c, _⟩ := info_of inf156; ⟨_, _, i, Tryd.underlying159, rfl, rfl, a, by rw [c]; decide⟩⟩
instance : TFld Tryd.prog 159 8 8 := ⟨let ⟨i, a, _, c, _⟩ := info_of inf96; ⟨_, _, i, Tryd.underlying159, rfl, rfl, a, by rw [c]; decide⟩⟩
instance : TFldV Tryd.prog 159 0 0 := ⟨⟨_, _, _, Tryd.underlying159, rfl, rfl, Tryd.underlying12, rfl⟩⟩
instance : TFldV Tryd.prog 159 1 1 := ⟨⟨_, _, _, Tryd.underlying159, rfl, rfl, Tryd.underlying12, rfl⟩⟩
instance : TFldV Tryd.prog 159 2 2 := ⟨⟨_, _, _, Tryd.underlying159, rfl, rfl, Tryd.underlying124, rfl⟩⟩
instance : TFldV Tryd.prog 159 4 4 := ⟨⟨_, _, _, Tryd.underlying159, rfl, rfl, Tryd.underlying5, rfl⟩⟩
instance : TFldV Tryd.prog 159 5 5 := ⟨⟨_, _, _, Tryd.underlying159, rfl, rfl, Tryd.underlying5, rfl⟩⟩
instance : TFldV Tryd.prog 159 7 7 := ⟨⟨_, _, _, Tryd.underlying159, rfl, rfl, Tryd.underlying156, rfl⟩⟩
instance : TFldV Tryd.prog 159 8 8 := ⟨⟨_, _, _, Tryd.underlying159, rfl, rfl, Tryd.underlying96, rfl⟩⟩
instance : TFunc Tryd.prog 2 := ⟨_, _, Tryd.func2, rfl, by decide⟩
instance : TFunc Tryd.prog 3 := ⟨_, _, Tryd.func3, rfl, by decide⟩
instance : TFunc Tryd.prog 4 := ⟨_, _, Tryd.func4, rfl, by decide⟩
instance : TFunc Tryd.prog 5 := ⟨_, _, Tryd.func5, rfl, by decide⟩
instance : TFunc Tryd.prog 6 := ⟨_, _, Tryd.func6, rfl, by decide⟩
instance : TFunc Tryd.prog 7 := ⟨_, _, Tryd.func7, rfl, by decide⟩
instance : TFunc Tryd.prog 8 := ⟨_, _, Tryd.func8, rfl, by decide⟩
instance : TFunc Tryd.prog 9 := ⟨_, _, Tryd.func9, rfl, by decide⟩
instance : TFunc Tryd.prog 10 := ⟨_, _, Tryd.func10, rfl, by decide⟩
instance : TFunc Tryd.prog 11 := ⟨_, _, Tryd.func11, rfl, by decide⟩
instance : TFunc Tryd.prog 12 := ⟨_, _, Tryd.func12, rfl, by decide⟩
instance : TFunc Tryd.prog 13 := ⟨_, _, Tryd.func13, rfl, by decide⟩
instance : TFunc Tryd.prog 14 := ⟨_, _, Tryd.func14, rfl, by decide⟩
instance : TFunc Tryd.prog 15 := ⟨_, _, Tryd.func15, rfl, by decide⟩
instance : TFunc Tryd.prog 16 := ⟨_, _, Tryd.func16, rfl, by decide⟩
instance : TFunc Tryd.prog 17 := ⟨_, _, Tryd.func17, rfl, by decide⟩
instance : TFunc Tryd.prog 18 := ⟨_, _, Tryd.func18, rfl, by decide⟩
instance : TFunc Tryd.prog 19 := ⟨_, _, Tryd.func19, rfl, by decide⟩
instance : TFunc Tryd.prog 20 := ⟨_, _, Tryd.func20, rfl, by decide⟩
instance : TFunc Tryd.prog 21 := ⟨_, _, Tryd.func21, rfl, by decide⟩
instance : TFunc Tryd.prog 22 := ⟨_, _, Tryd.func22, rfl, by decide⟩
instance : TFunc Tryd.prog 23 := ⟨_, _, Tryd.func23, rfl, by decide⟩
instance : TFunc Tryd.prog 24 := ⟨_, _, Tryd.func24, rfl, by decide⟩
instance : TFunc Tryd.prog 25 := ⟨_, _, Tryd.func25, rfl, by decide⟩
instance : TFunc Tryd.prog 26 := ⟨_, _, Tryd.func26, rfl, by decide⟩
instance : TFunc Tryd.prog 27 := ⟨_, _, Tryd.func27, rfl, by decide⟩
instance : TFunc Tryd.prog 28 := ⟨_, _, Tryd.func28, rfl, by decide⟩
instance : TFunc Tryd.prog 29 := ⟨_, _, Tryd.func29, rfl, by decide⟩
instance : TFunc Tryd.prog 30 := ⟨_, _, Tryd.func30, rfl, by decide⟩
instance : TFunc Tryd.prog 31 := ⟨_, _, Tryd.func31, rfl, by decide⟩
instance : TFunc Tryd.prog 32 := ⟨_, _, Tryd.func32, rfl, by decide⟩
instance : TFunc Tryd.prog 33 := ⟨_, _, Tryd.func33, rfl, by decide⟩
instance : TFunc Tryd.prog 34 := ⟨_, _, Tryd.func34, rfl, by decide⟩
instance : TFunc Tryd.prog 35 := ⟨_, _, Tryd.func35, rfl, by decide⟩
instance : TFunc Tryd.prog 36 := ⟨_, _, Tryd.func36, rfl, by decide⟩
instance : TFunc Tryd.prog 37 := ⟨_, _, Tryd.func37, rfl, by decide⟩
instance : TFunc Tryd.prog 38 := ⟨_, _, Tryd.func38, rfl, by decide⟩
instance : TFunc Tryd.prog 39 := ⟨_, _, Tryd.func39, rfl, by decide⟩
instance : TFunc Tryd.prog 40 := ⟨_, _, Tryd.func40, rfl, by decide⟩
instance : TFunc Tryd.prog 41 := ⟨_, _, Tryd.func41, rfl, by decide⟩
instance : TFunc Tryd.prog 42 := ⟨_, _, Tryd.func42, rfl, by decide⟩
instance : TFunc Tryd.prog 43 := ⟨_, _, Tryd.func43, rfl, by decide⟩
instance : TFunc Tryd.prog 44 := ⟨_, _, Tryd.func44, rfl, by decide⟩
instance : TFunc Tryd.prog 45 := ⟨_, _, Tryd.func45, rfl, by decide⟩
instance : TFunc Tryd.prog 46 := ⟨_, _, Tryd.func46, rfl, by decide⟩
instance : TFunc Tryd.prog 47 := ⟨_, _, Tryd.func47, rfl, by decide⟩
instance : TFunc Tryd.prog 48 := ⟨_, _, Tryd.func48, rfl, by decide⟩
instance : TFunc Tryd.prog 49 := ⟨_, _, Tryd.func49, rfl, by decide⟩
instance : TFunc Tryd.prog 50 := ⟨_, _, Tryd.func50, rfl, by decide⟩
instance : TFunc Tryd.prog 51 := ⟨_, _, Tryd.func51, rfl, by decide⟩
instance : TFunc Tryd.prog 52 := ⟨_, _, Tryd.func52, rfl, by decide⟩
instance : TFunc Tryd.prog 53 := ⟨_, _, Tryd.func53, rfl, by decide⟩
instance : TFunc Tryd.prog 54 := ⟨_, _, Tryd.func54, rfl, by decide⟩
instance : TFunc Tryd.prog 55 := ⟨_, _, Tryd.func55, rfl, by decide⟩
instance : TFunc Tryd.prog 56 := ⟨_, _, Tryd.func56, rfl, by decide⟩
instance : TFunc Tryd.prog 57 := ⟨_, _, Tryd.func57, rfl, by decide⟩
instance : TFunc Tryd.prog 58 := ⟨_, _, Tryd.func58, rfl, by decide⟩
instance : TFunc Tryd.prog 59 := ⟨_, _, Tryd.func59, rfl, by decide⟩
instance : TFunc Tryd.prog 60 := ⟨_, _, Tryd.func60, rfl, by decide⟩
instance : TFunc Tryd.prog 61 := ⟨_, _, Tryd.func61, rfl, by decide⟩
instance : TFunc Tryd.prog 62 := ⟨_, _, Tryd.func62, rfl, by decide⟩
instance : TFunc Tryd.prog 63 := ⟨_, _, Tryd.func63, rfl, by decide⟩
instance : TFunc Tryd.prog 64 := ⟨_, _, Tryd.func64, rfl, by decide⟩
instance : TFunc Tryd.prog 65 := ⟨_, _, Tryd.func65, rfl, by decide⟩
instance : TFunc Tryd.prog 66 := ⟨_, _, Tryd.func66, rfl, by decide⟩
instance : TFunc Tryd.prog 67 := ⟨_, _, Tryd.func67, rfl, by decide⟩
instance : TFunc Tryd.prog 68 := ⟨_, _, Tryd.func68, rfl, by decide⟩
instance : TFunc Tryd.prog 69 := ⟨_, _, Tryd.func69, rfl, by decide⟩
instance : TFunc Tryd.prog 70 := ⟨_, _, Tryd.func70, rfl, by decide⟩
instance : TFunc Tryd.prog 71 := ⟨_, _, Tryd.func71, rfl, by decide⟩
instance : TFunc Tryd.prog 72 := ⟨_, _, Tryd.func72, rfl, by decide⟩
instance : TFunc Tryd.prog 74 := ⟨_, _, Tryd.func74, rfl, by decide⟩
instance : TFunc Tryd.prog 75 := ⟨_, _, Tryd.func75, rfl, by decide⟩
instance : TFunc Tryd.prog 77 := ⟨_, _, Tryd.func77, rfl, by decide⟩
instance : TFunc Tryd.prog 78 := ⟨_, _, Tryd.func78, rfl, by decide⟩
instance : TFunc Tryd.prog 79 := ⟨_, _, Tryd.func79, rfl, by decide⟩
instance : TFunc Tryd.prog 80 := ⟨_, _, Tryd.func80, rfl, by decide⟩
instance : TFunc Tryd.prog 81 := ⟨_, _, Tryd.func81, rfl, by decide⟩
instance : TFunc Tryd.prog 82 := ⟨_, _, Tryd.func82, rfl, by decide⟩
instance : TFunc Tryd.prog 83 := ⟨_, _, Tryd.func83, rfl, by decide⟩
instance : TFunc Tryd.prog 84 := ⟨_, _, Tryd.func84, rfl, by decide⟩
instance : TFunc Tryd.prog 85 := ⟨_, _, Tryd.func85, rfl, by decide⟩
instance : TFunc Tryd.prog 86 := ⟨_, _, Tryd.func86, rfl, by decide⟩
instance : TFunc Tryd.prog 87 := ⟨_, _, Tryd.func87, rfl, by decide⟩
instance : TFunc Tryd.prog 88 := ⟨_, _, Tryd.func88, rfl, by decide⟩
instance : TFunc Tryd.prog 90 := ⟨_, _, Tryd.func90, rfl, by decide⟩
instance : TFunc Tryd.prog 91 := ⟨_, _, Tryd.func91, rfl, by decide⟩
instance : TFunc Tryd.prog 93 := ⟨_, _, Tryd.func93, rfl, by decide⟩
instance : TFunc Tryd.prog 94 := ⟨_, _, Tryd.func94, rfl, by decide⟩
instance : TFunc Tryd.prog 95 := ⟨_, _, Tryd.func95, rfl, by decide⟩
instance : TFunc Tryd.prog 96 := ⟨_, _, Tryd.func96, rfl, by decide⟩
instance : TFunc Tryd.prog 97 := ⟨_, _, Tryd.func97, rfl, by decide⟩
instance : TFunc Tryd.prog 98 := ⟨_, _, Tryd.func98, rfl, by decide⟩
instance : TFunc Tryd.prog 99 := ⟨_, _, Tryd.func99, rfl, by decide⟩
instance : TFunc Tryd.prog 101 := ⟨_, _, Tryd.func101, rfl, by decide⟩
instance : TFunc Tryd.prog 102 := ⟨_, _, Tryd.func102, rfl, by decide⟩
instance : TFunc Tryd.prog 103 := ⟨_, _, Tryd.func103, rfl, by decide⟩
instance : TFunc Tryd.prog 134 := ⟨_, _, Tryd.func134, rfl, by decide⟩
theorem mixed : Tryd.prog.follows .mixedOrders = true := by kernel_rfl
end Go.Proofs.YtcglaiacohkaeaaDoor.L
