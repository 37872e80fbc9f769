/-
  Facts on the program's types and functions, by program. Own work.
-/
import Derived.Test.YtgmdlhlmffdbhaaGreatDoorErr
import Derived.Test.YtgmdlhlmffdbhaaGreatDoorChecked
import Derived.KernelRfl
set_option linter.unusedSimpArgs false
set_option linter.unusedVariables false
namespace Go.Proofs.YtgmdlhlmffdbhaaGreatDoor.L
open Go.L
theorem info_of {P : Program} {t : TypeId} {z : Value} {s b : Nat} (h : (P.info? t).map (fun i => (i.zero, i.size, i.bytes)) = some (some z, s, b)) : ∃ i, P.info? t = some i ∧ i.zero = some z ∧ i.size = s ∧ i.bytes = b := by
  cases hi : P.info? t with
  | none => rw [hi] at h; cases h
  | some i => rw [hi] at h; simp only [Option.map_some, Option.some.injEq, Prod.mk.injEq] at h; exact ⟨i, rfl, h.1, h.2.1, h.2.2⟩
theorem inf1 : (Tryz.prog.info? 1).map (fun i => (i.zero, i.size, i.bytes)) = some (some .nilFunc, 1, 8) := by kernel_rfl
theorem inf2 : (Tryz.prog.info? 2).map (fun i => (i.zero, i.size, i.bytes)) = some (some (.int .i64 0), 1, 8) := by kernel_rfl
theorem inf3 : (Tryz.prog.info? 3).map (fun i => (i.zero, i.size, i.bytes)) = some (some (.int .i64 0), 1, 8) := by kernel_rfl
theorem inf4 : (Tryz.prog.info? 4).map (fun i => (i.zero, i.size, i.bytes)) = some (some (.bool false), 1, 1) := by kernel_rfl
theorem inf5 : (Tryz.prog.info? 5).map (fun i => (i.zero, i.size, i.bytes)) = some (some (.int .u8 0), 1, 1) := by kernel_rfl
theorem inf7 : (Tryz.prog.info? 7).map (fun i => (i.zero, i.size, i.bytes)) = some (some (.agg #[(.int .i64 0), (.int .i64 0), (.bool false), (.int .u8 0)]), 4, 24) := by kernel_rfl
theorem inf9 : (Tryz.prog.info? 9).map (fun i => (i.zero, i.size, i.bytes)) = some (some (.string ByteArray.empty), 1, 16) := by kernel_rfl
theorem inf12 : (Tryz.prog.info? 12).map (fun i => (i.zero, i.size, i.bytes)) = some (some (.int .u64 0), 1, 8) := by kernel_rfl
theorem inf13 : (Tryz.prog.info? 13).map (fun i => (i.zero, i.size, i.bytes)) = some (some (.agg #[(.string ByteArray.empty), (.int .u64 0)]), 2, 24) := by kernel_rfl
theorem inf18 : (Tryz.prog.info? 18).map (fun i => (i.zero, i.size, i.bytes)) = some (some (.agg #[(.pointer none)]), 1, 8) := by kernel_rfl
theorem inf20 : (Tryz.prog.info? 20).map (fun i => (i.zero, i.size, i.bytes)) = some (some .nilIface, 1, 16) := by kernel_rfl
theorem inf21 : (Tryz.prog.info? 21).map (fun i => (i.zero, i.size, i.bytes)) = some (some (.int .i32 0), 1, 4) := by kernel_rfl
theorem inf22 : (Tryz.prog.info? 22).map (fun i => (i.zero, i.size, i.bytes)) = some (some (.slice none 0 0), 1, 24) := by kernel_rfl
theorem inf23 : (Tryz.prog.info? 23).map (fun i => (i.zero, i.size, i.bytes)) = some (some (.agg #[(.slice none 0 0)]), 1, 24) := by kernel_rfl
theorem inf24 : (Tryz.prog.info? 24).map (fun i => (i.zero, i.size, i.bytes)) = some (some (.agg #[(.slice none 0 0)]), 1, 24) := by kernel_rfl
theorem inf25 : (Tryz.prog.info? 25).map (fun i => (i.zero, i.size, i.bytes)) = some (some .nilFunc, 1, 8) := by kernel_rfl
theorem inf26 : (Tryz.prog.info? 26).map (fun i => (i.zero, i.size, i.bytes)) = some (some .nilIface, 1, 16) := by kernel_rfl
theorem inf27 : (Tryz.prog.info? 27).map (fun i => (i.zero, i.size, i.bytes)) = some (some .nilIface, 1, 16) := by kernel_rfl
theorem inf28 : (Tryz.prog.info? 28).map (fun i => (i.zero, i.size, i.bytes)) = some (some .nilFunc, 1, 8) := by kernel_rfl
theorem inf29 : (Tryz.prog.info? 29).map (fun i => (i.zero, i.size, i.bytes)) = some (some (.int .i64 0), 1, 8) := by kernel_rfl
theorem inf31 : (Tryz.prog.info? 31).map (fun i => (i.zero, i.size, i.bytes)) = some (some .nilFunc, 1, 8) := by kernel_rfl
theorem inf33 : (Tryz.prog.info? 33).map (fun i => (i.zero, i.size, i.bytes)) = some (some .nilFunc, 1, 8) := by kernel_rfl
theorem inf34 : (Tryz.prog.info? 34).map (fun i => (i.zero, i.size, i.bytes)) = some (some .nilFunc, 1, 8) := by kernel_rfl
theorem inf35 : (Tryz.prog.info? 35).map (fun i => (i.zero, i.size, i.bytes)) = some (some .nilFunc, 1, 8) := by kernel_rfl
theorem inf36 : (Tryz.prog.info? 36).map (fun i => (i.zero, i.size, i.bytes)) = some (some .nilFunc, 1, 8) := by kernel_rfl
theorem inf37 : (Tryz.prog.info? 37).map (fun i => (i.zero, i.size, i.bytes)) = some (some (.agg #[(.int .i64 0), (.string ByteArray.empty), (.string ByteArray.empty), (.string ByteArray.empty), (.int .i64 0), (.int .i64 0), (.int .i64 0)]), 7, 80) := by kernel_rfl
theorem inf38 : (Tryz.prog.info? 38).map (fun i => (i.zero, i.size, i.bytes)) = some (some (.agg #[(.int .i64 0), (.string ByteArray.empty), (.string ByteArray.empty), (.string ByteArray.empty), (.int .i64 0), (.int .i64 0), (.int .i64 0)]), 7, 80) := by kernel_rfl
theorem inf39 : (Tryz.prog.info? 39).map (fun i => (i.zero, i.size, i.bytes)) = some (some .nilFunc, 1, 8) := by kernel_rfl
theorem inf40 : (Tryz.prog.info? 40).map (fun i => (i.zero, i.size, i.bytes)) = some (some (.slice none 0 0), 1, 24) := by kernel_rfl
theorem inf41 : (Tryz.prog.info? 41).map (fun i => (i.zero, i.size, i.bytes)) = some (some .nilFunc, 1, 8) := by kernel_rfl
theorem inf42 : (Tryz.prog.info? 42).map (fun i => (i.zero, i.size, i.bytes)) = some (some .nilFunc, 1, 8) := by kernel_rfl
theorem inf43 : (Tryz.prog.info? 43).map (fun i => (i.zero, i.size, i.bytes)) = some (some .nilFunc, 1, 8) := by kernel_rfl
theorem inf44 : (Tryz.prog.info? 44).map (fun i => (i.zero, i.size, i.bytes)) = some (some (.agg #[(.bool false), (.int .i64 0)]), 2, 16) := by kernel_rfl
theorem inf45 : (Tryz.prog.info? 45).map (fun i => (i.zero, i.size, i.bytes)) = some (some (.agg #[(.bool false), (.int .i64 0)]), 2, 16) := by kernel_rfl
theorem inf46 : (Tryz.prog.info? 46).map (fun i => (i.zero, i.size, i.bytes)) = some (some (.pointer none), 1, 8) := by kernel_rfl
theorem inf47 : (Tryz.prog.info? 47).map (fun i => (i.zero, i.size, i.bytes)) = some (some .nilFunc, 1, 8) := by kernel_rfl
theorem inf48 : (Tryz.prog.info? 48).map (fun i => (i.zero, i.size, i.bytes)) = some (some .nilFunc, 1, 8) := by kernel_rfl
theorem inf49 : (Tryz.prog.info? 49).map (fun i => (i.zero, i.size, i.bytes)) = some (some .nilFunc, 1, 8) := by kernel_rfl
theorem inf50 : (Tryz.prog.info? 50).map (fun i => (i.zero, i.size, i.bytes)) = some (some (.pointer none), 1, 8) := by kernel_rfl
theorem inf51 : (Tryz.prog.info? 51).map (fun i => (i.zero, i.size, i.bytes)) = some (some (.slice none 0 0), 1, 24) := by kernel_rfl
theorem inf52 : (Tryz.prog.info? 52).map (fun i => (i.zero, i.size, i.bytes)) = some (some (.agg #[(.slice none 0 0)]), 1, 24) := by kernel_rfl
theorem inf53 : (Tryz.prog.info? 53).map (fun i => (i.zero, i.size, i.bytes)) = some (some (.agg #[(.slice none 0 0)]), 1, 24) := by kernel_rfl
theorem inf54 : (Tryz.prog.info? 54).map (fun i => (i.zero, i.size, i.bytes)) = some (some (.slice none 0 0), 1, 24) := by kernel_rfl
theorem inf55 : (Tryz.prog.info? 55).map (fun i => (i.zero, i.size, i.bytes)) = some (some (.slice none 0 0), 1, 24) := by kernel_rfl
theorem inf56 : (Tryz.prog.info? 56).map (fun i => (i.zero, i.size, i.bytes)) = some (some (.agg #[(.string ByteArray.empty), (.int .i64 0), (.int .i64 0), (.slice none 0 0), (.slice none 0 0)]), 5, 80) := by kernel_rfl
theorem inf57 : (Tryz.prog.info? 57).map (fun i => (i.zero, i.size, i.bytes)) = some (some (.agg #[(.string ByteArray.empty), (.int .i64 0), (.int .i64 0), (.slice none 0 0), (.slice none 0 0)]), 5, 80) := by kernel_rfl
theorem inf58 : (Tryz.prog.info? 58).map (fun i => (i.zero, i.size, i.bytes)) = some (some .nilFunc, 1, 8) := by kernel_rfl
theorem inf59 : (Tryz.prog.info? 59).map (fun i => (i.zero, i.size, i.bytes)) = some (some .nilFunc, 1, 8) := by kernel_rfl
theorem inf60 : (Tryz.prog.info? 60).map (fun i => (i.zero, i.size, i.bytes)) = some (some .nilFunc, 1, 8) := by kernel_rfl
theorem inf61 : (Tryz.prog.info? 61).map (fun i => (i.zero, i.size, i.bytes)) = some (some .nilFunc, 1, 8) := by kernel_rfl
theorem inf62 : (Tryz.prog.info? 62).map (fun i => (i.zero, i.size, i.bytes)) = some (some (.slice none 0 0), 1, 24) := by kernel_rfl
theorem inf64 : (Tryz.prog.info? 64).map (fun i => (i.zero, i.size, i.bytes)) = some (some .nilFunc, 1, 8) := by kernel_rfl
theorem inf65 : (Tryz.prog.info? 65).map (fun i => (i.zero, i.size, i.bytes)) = some (some (.pointer none), 1, 8) := by kernel_rfl
theorem inf67 : (Tryz.prog.info? 67).map (fun i => (i.zero, i.size, i.bytes)) = some (some (.pointer none), 1, 8) := by kernel_rfl
theorem inf68 : (Tryz.prog.info? 68).map (fun i => (i.zero, i.size, i.bytes)) = some (some (.agg #[(.slice none 0 0), (.int .i64 0)]), 2, 32) := by kernel_rfl
theorem inf69 : (Tryz.prog.info? 69).map (fun i => (i.zero, i.size, i.bytes)) = some (some (.agg #[(.slice none 0 0), (.int .i64 0)]), 2, 32) := by kernel_rfl
theorem inf70 : (Tryz.prog.info? 70).map (fun i => (i.zero, i.size, i.bytes)) = some (some .nilFunc, 1, 8) := by kernel_rfl
theorem inf71 : (Tryz.prog.info? 71).map (fun i => (i.zero, i.size, i.bytes)) = some (some .nilFunc, 1, 8) := by kernel_rfl
theorem inf72 : (Tryz.prog.info? 72).map (fun i => (i.zero, i.size, i.bytes)) = some (some .nilFunc, 1, 8) := by kernel_rfl
theorem inf73 : (Tryz.prog.info? 73).map (fun i => (i.zero, i.size, i.bytes)) = some (some .nilFunc, 1, 8) := by kernel_rfl
theorem inf74 : (Tryz.prog.info? 74).map (fun i => (i.zero, i.size, i.bytes)) = some (some (.agg #[(.string ByteArray.empty), (.int .i64 0)]), 2, 24) := by kernel_rfl
theorem inf75 : (Tryz.prog.info? 75).map (fun i => (i.zero, i.size, i.bytes)) = some (some (.agg #[(.string ByteArray.empty), (.int .i64 0)]), 2, 24) := by kernel_rfl
theorem inf76 : (Tryz.prog.info? 76).map (fun i => (i.zero, i.size, i.bytes)) = some (some .nilFunc, 1, 8) := by kernel_rfl
theorem inf77 : (Tryz.prog.info? 77).map (fun i => (i.zero, i.size, i.bytes)) = some (some (.slice none 0 0), 1, 24) := by kernel_rfl
theorem inf78 : (Tryz.prog.info? 78).map (fun i => (i.zero, i.size, i.bytes)) = some (some (.agg #[(.string ByteArray.empty), (.slice none 0 0)]), 2, 40) := by kernel_rfl
theorem inf79 : (Tryz.prog.info? 79).map (fun i => (i.zero, i.size, i.bytes)) = some (some (.agg #[(.string ByteArray.empty), (.slice none 0 0)]), 2, 40) := by kernel_rfl
theorem inf80 : (Tryz.prog.info? 80).map (fun i => (i.zero, i.size, i.bytes)) = some (some .nilFunc, 1, 8) := by kernel_rfl
theorem inf81 : (Tryz.prog.info? 81).map (fun i => (i.zero, i.size, i.bytes)) = some (some (.slice none 0 0), 1, 24) := by kernel_rfl
theorem inf82 : (Tryz.prog.info? 82).map (fun i => (i.zero, i.size, i.bytes)) = some (some (.agg #[(.string ByteArray.empty), (.bool false), (.int .i64 0), (.slice none 0 0)]), 4, 56) := by kernel_rfl
theorem inf83 : (Tryz.prog.info? 83).map (fun i => (i.zero, i.size, i.bytes)) = some (some (.agg #[(.string ByteArray.empty), (.bool false), (.int .i64 0), (.slice none 0 0)]), 4, 56) := by kernel_rfl
theorem inf84 : (Tryz.prog.info? 84).map (fun i => (i.zero, i.size, i.bytes)) = some (some .nilFunc, 1, 8) := by kernel_rfl
theorem inf85 : (Tryz.prog.info? 85).map (fun i => (i.zero, i.size, i.bytes)) = some (some .nilFunc, 1, 8) := by kernel_rfl
theorem inf86 : (Tryz.prog.info? 86).map (fun i => (i.zero, i.size, i.bytes)) = some (some .nilFunc, 1, 8) := by kernel_rfl
theorem inf87 : (Tryz.prog.info? 87).map (fun i => (i.zero, i.size, i.bytes)) = some (some .nilFunc, 1, 8) := by kernel_rfl
theorem inf88 : (Tryz.prog.info? 88).map (fun i => (i.zero, i.size, i.bytes)) = some (some .nilFunc, 1, 8) := by kernel_rfl
theorem inf89 : (Tryz.prog.info? 89).map (fun i => (i.zero, i.size, i.bytes)) = some (some (.pointer none), 1, 8) := by kernel_rfl
theorem inf90 : (Tryz.prog.info? 90).map (fun i => (i.zero, i.size, i.bytes)) = some (some (.agg #[(.int .i64 0), (.slice none 0 0)]), 2, 32) := by kernel_rfl
theorem inf91 : (Tryz.prog.info? 91).map (fun i => (i.zero, i.size, i.bytes)) = some (some (.agg #[(.int .i64 0), (.slice none 0 0)]), 2, 32) := by kernel_rfl
theorem inf92 : (Tryz.prog.info? 92).map (fun i => (i.zero, i.size, i.bytes)) = some (some .nilFunc, 1, 8) := by kernel_rfl
theorem inf93 : (Tryz.prog.info? 93).map (fun i => (i.zero, i.size, i.bytes)) = some (some (.slice none 0 0), 1, 24) := by kernel_rfl
theorem inf94 : (Tryz.prog.info? 94).map (fun i => (i.zero, i.size, i.bytes)) = some (some .nilFunc, 1, 8) := by kernel_rfl
theorem inf95 : (Tryz.prog.info? 95).map (fun i => (i.zero, i.size, i.bytes)) = some (some .nilFunc, 1, 8) := by kernel_rfl
theorem inf96 : (Tryz.prog.info? 96).map (fun i => (i.zero, i.size, i.bytes)) = some (some .nilFunc, 1, 8) := by kernel_rfl
theorem inf97 : (Tryz.prog.info? 97).map (fun i => (i.zero, i.size, i.bytes)) = some (some .nilFunc, 1, 8) := by kernel_rfl
theorem inf98 : (Tryz.prog.info? 98).map (fun i => (i.zero, i.size, i.bytes)) = some (some .nilFunc, 1, 8) := by kernel_rfl
theorem inf99 : (Tryz.prog.info? 99).map (fun i => (i.zero, i.size, i.bytes)) = some (some .nilFunc, 1, 8) := by kernel_rfl
theorem inf100 : (Tryz.prog.info? 100).map (fun i => (i.zero, i.size, i.bytes)) = some (some .nilFunc, 1, 8) := by kernel_rfl
theorem inf101 : (Tryz.prog.info? 101).map (fun i => (i.zero, i.size, i.bytes)) = some (some .nilFunc, 1, 8) := by kernel_rfl
theorem inf102 : (Tryz.prog.info? 102).map (fun i => (i.zero, i.size, i.bytes)) = some (some (.pointer none), 1, 8) := by kernel_rfl
theorem inf103 : (Tryz.prog.info? 103).map (fun i => (i.zero, i.size, i.bytes)) = some (some (.slice none 0 0), 1, 24) := by kernel_rfl
theorem inf104 : (Tryz.prog.info? 104).map (fun i => (i.zero, i.size, i.bytes)) = some (some (.agg #[(.pointer none), (.slice none 0 0)]), 2, 32) := by kernel_rfl
theorem inf105 : (Tryz.prog.info? 105).map (fun i => (i.zero, i.size, i.bytes)) = some (some (.agg #[(.pointer none), (.slice none 0 0)]), 2, 32) := by kernel_rfl
theorem inf106 : (Tryz.prog.info? 106).map (fun i => (i.zero, i.size, i.bytes)) = some (some .nilFunc, 1, 8) := by kernel_rfl
theorem inf108 : (Tryz.prog.info? 108).map (fun i => (i.zero, i.size, i.bytes)) = some (some .nilFunc, 1, 8) := by kernel_rfl
theorem inf109 : (Tryz.prog.info? 109).map (fun i => (i.zero, i.size, i.bytes)) = some (some .nilFunc, 1, 8) := by kernel_rfl
theorem inf110 : (Tryz.prog.info? 110).map (fun i => (i.zero, i.size, i.bytes)) = some (some .nilIface, 1, 16) := by kernel_rfl
theorem inf111 : (Tryz.prog.info? 111).map (fun i => (i.zero, i.size, i.bytes)) = some (some .nilIface, 1, 16) := by kernel_rfl
theorem inf112 : (Tryz.prog.info? 112).map (fun i => (i.zero, i.size, i.bytes)) = some (some .nilFunc, 1, 8) := by kernel_rfl
theorem inf113 : (Tryz.prog.info? 113).map (fun i => (i.zero, i.size, i.bytes)) = some (some .nilFunc, 1, 8) := by kernel_rfl
theorem inf114 : (Tryz.prog.info? 114).map (fun i => (i.zero, i.size, i.bytes)) = some (some (.agg #[(.int .i64 0), (.int .i64 0)]), 2, 16) := by kernel_rfl
theorem inf115 : (Tryz.prog.info? 115).map (fun i => (i.zero, i.size, i.bytes)) = some (some (.agg #[(.int .i64 0), (.int .i64 0)]), 2, 16) := by kernel_rfl
theorem inf116 : (Tryz.prog.info? 116).map (fun i => (i.zero, i.size, i.bytes)) = some (some .nilFunc, 1, 8) := by kernel_rfl
theorem inf117 : (Tryz.prog.info? 117).map (fun i => (i.zero, i.size, i.bytes)) = some (some (.agg #[(.int .i64 0), (.string ByteArray.empty), (.int .i64 0), (.int .i64 0)]), 4, 40) := by kernel_rfl
theorem inf118 : (Tryz.prog.info? 118).map (fun i => (i.zero, i.size, i.bytes)) = some (some (.agg #[(.int .i64 0), (.string ByteArray.empty), (.int .i64 0), (.int .i64 0)]), 4, 40) := by kernel_rfl
theorem inf120 : (Tryz.prog.info? 120).map (fun i => (i.zero, i.size, i.bytes)) = some (some .nilFunc, 1, 8) := by kernel_rfl
theorem inf121 : (Tryz.prog.info? 121).map (fun i => (i.zero, i.size, i.bytes)) = some (some .nilFunc, 1, 8) := by kernel_rfl
theorem inf122 : (Tryz.prog.info? 122).map (fun i => (i.zero, i.size, i.bytes)) = some (some .nilFunc, 1, 8) := by kernel_rfl
theorem inf123 : (Tryz.prog.info? 123).map (fun i => (i.zero, i.size, i.bytes)) = some (some (.pointer none), 1, 8) := by kernel_rfl
theorem inf124 : (Tryz.prog.info? 124).map (fun i => (i.zero, i.size, i.bytes)) = some (some (.int .u64 0), 1, 8) := by kernel_rfl
theorem inf125 : (Tryz.prog.info? 125).map (fun i => (i.zero, i.size, i.bytes)) = some (some (.agg #[(.pointer none), (.pointer none), (.int .u64 0)]), 3, 24) := by kernel_rfl
theorem inf126 : (Tryz.prog.info? 126).map (fun i => (i.zero, i.size, i.bytes)) = some (some (.agg #[(.pointer none), (.pointer none), (.int .u64 0)]), 3, 24) := by kernel_rfl
theorem inf127 : (Tryz.prog.info? 127).map (fun i => (i.zero, i.size, i.bytes)) = some (some .nilFunc, 1, 8) := by kernel_rfl
theorem inf128 : (Tryz.prog.info? 128).map (fun i => (i.zero, i.size, i.bytes)) = some (some .nilFunc, 1, 8) := by kernel_rfl
theorem inf130 : (Tryz.prog.info? 130).map (fun i => (i.zero, i.size, i.bytes)) = some (some .nilFunc, 1, 8) := by kernel_rfl
theorem inf131 : (Tryz.prog.info? 131).map (fun i => (i.zero, i.size, i.bytes)) = some (some .nilFunc, 1, 8) := by kernel_rfl
theorem inf132 : (Tryz.prog.info? 132).map (fun i => (i.zero, i.size, i.bytes)) = some (some .nilFunc, 1, 8) := by kernel_rfl
theorem inf133 : (Tryz.prog.info? 133).map (fun i => (i.zero, i.size, i.bytes)) = some (some .nilFunc, 1, 8) := by kernel_rfl
theorem inf134 : (Tryz.prog.info? 134).map (fun i => (i.zero, i.size, i.bytes)) = some (some .nilFunc, 1, 8) := by kernel_rfl
theorem inf135 : (Tryz.prog.info? 135).map (fun i => (i.zero, i.size, i.bytes)) = some (some .nilFunc, 1, 8) := by kernel_rfl
theorem inf136 : (Tryz.prog.info? 136).map (fun i => (i.zero, i.size, i.bytes)) = some (some .nilFunc, 1, 8) := by kernel_rfl
theorem inf137 : (Tryz.prog.info? 137).map (fun i => (i.zero, i.size, i.bytes)) = some (some .nilFunc, 1, 8) := by kernel_rfl
theorem inf138 : (Tryz.prog.info? 138).map (fun i => (i.zero, i.size, i.bytes)) = some (some .nilFunc, 1, 8) := by kernel_rfl
theorem inf139 : (Tryz.prog.info? 139).map (fun i => (i.zero, i.size, i.bytes)) = some (some .nilFunc, 1, 8) := by kernel_rfl
theorem inf140 : (Tryz.prog.info? 140).map (fun i => (i.zero, i.size, i.bytes)) = some (some .nilFunc, 1, 8) := by kernel_rfl
theorem inf141 : (Tryz.prog.info? 141).map (fun i => (i.zero, i.size, i.bytes)) = some (some .nilFunc, 1, 8) := by kernel_rfl
theorem inf142 : (Tryz.prog.info? 142).map (fun i => (i.zero, i.size, i.bytes)) = some (some (.pointer none), 1, 8) := by kernel_rfl
theorem inf143 : (Tryz.prog.info? 143).map (fun i => (i.zero, i.size, i.bytes)) = some (some (.agg #[(.pointer none)]), 1, 8) := by kernel_rfl
theorem inf144 : (Tryz.prog.info? 144).map (fun i => (i.zero, i.size, i.bytes)) = some (some (.agg #[(.pointer none)]), 1, 8) := by kernel_rfl
theorem inf145 : (Tryz.prog.info? 145).map (fun i => (i.zero, i.size, i.bytes)) = some (some (.pointer none), 1, 8) := by kernel_rfl
theorem inf146 : (Tryz.prog.info? 146).map (fun i => (i.zero, i.size, i.bytes)) = some (some .nilIface, 1, 16) := by kernel_rfl
theorem inf148 : (Tryz.prog.info? 148).map (fun i => (i.zero, i.size, i.bytes)) = some (some .nilFunc, 1, 8) := by kernel_rfl
theorem inf149 : (Tryz.prog.info? 149).map (fun i => (i.zero, i.size, i.bytes)) = some (some .nilIface, 1, 16) := by kernel_rfl
theorem inf150 : (Tryz.prog.info? 150).map (fun i => (i.zero, i.size, i.bytes)) = some (some .nilFunc, 1, 8) := by kernel_rfl
theorem inf151 : (Tryz.prog.info? 151).map (fun i => (i.zero, i.size, i.bytes)) = some (some .nilIface, 1, 16) := by kernel_rfl
theorem inf152 : (Tryz.prog.info? 152).map (fun i => (i.zero, i.size, i.bytes)) = some (some (.slice none 0 0), 1, 24) := by kernel_rfl
theorem inf153 : (Tryz.prog.info? 153).map (fun i => (i.zero, i.size, i.bytes)) = some (some .nilFunc, 1, 8) := by kernel_rfl
theorem inf154 : (Tryz.prog.info? 154).map (fun i => (i.zero, i.size, i.bytes)) = some (some .nilFunc, 1, 8) := by kernel_rfl
theorem inf155 : (Tryz.prog.info? 155).map (fun i => (i.zero, i.size, i.bytes)) = some (some (.int .u64 0), 1, 8) := by kernel_rfl
theorem inf157 : (Tryz.prog.info? 157).map (fun i => (i.zero, i.size, i.bytes)) = some (some .nilFunc, 1, 8) := by kernel_rfl
theorem inf158 : (Tryz.prog.info? 158).map (fun i => (i.zero, i.size, i.bytes)) = some (some .nilFunc, 1, 8) := by kernel_rfl
theorem inf159 : (Tryz.prog.info? 159).map (fun i => (i.zero, i.size, i.bytes)) = some (some .nilFunc, 1, 8) := by kernel_rfl
theorem inf160 : (Tryz.prog.info? 160).map (fun i => (i.zero, i.size, i.bytes)) = some (some .nilFunc, 1, 8) := by kernel_rfl
theorem inf161 : (Tryz.prog.info? 161).map (fun i => (i.zero, i.size, i.bytes)) = some (some .nilFunc, 1, 8) := by kernel_rfl
theorem inf162 : (Tryz.prog.info? 162).map (fun i => (i.zero, i.size, i.bytes)) = some (some .nilIface, 1, 16) := by kernel_rfl
theorem inf164 : (Tryz.prog.info? 164).map (fun i => (i.zero, i.size, i.bytes)) = some (some .nilFunc, 1, 8) := by kernel_rfl
theorem inf165 : (Tryz.prog.info? 165).map (fun i => (i.zero, i.size, i.bytes)) = some (some .nilFunc, 1, 8) := by kernel_rfl
theorem inf166 : (Tryz.prog.info? 166).map (fun i => (i.zero, i.size, i.bytes)) = some (some .nilFunc, 1, 8) := by kernel_rfl
theorem inf167 : (Tryz.prog.info? 167).map (fun i => (i.zero, i.size, i.bytes)) = some (some .nilFunc, 1, 8) := by kernel_rfl
theorem inf168 : (Tryz.prog.info? 168).map (fun i => (i.zero, i.size, i.bytes)) = some (some .nilFunc, 1, 8) := by kernel_rfl
theorem inf169 : (Tryz.prog.info? 169).map (fun i => (i.zero, i.size, i.bytes)) = some (some .nilFunc, 1, 8) := by kernel_rfl
theorem inf170 : (Tryz.prog.info? 170).map (fun i => (i.zero, i.size, i.bytes)) = some (some .nilFunc, 1, 8) := by kernel_rfl
theorem inf171 : (Tryz.prog.info? 171).map (fun i => (i.zero, i.size, i.bytes)) = some (some .nilFunc, 1, 8) := by kernel_rfl
theorem inf172 : (Tryz.prog.info? 172).map (fun i => (i.zero, i.size, i.bytes)) = some (some .nilFunc, 1, 8) := by kernel_rfl
theorem inf173 : (Tryz.prog.info? 173).map (fun i => (i.zero, i.size, i.bytes)) = some (some (.agg #[(.string ByteArray.empty), (.string ByteArray.empty)]), 2, 32) := by kernel_rfl
theorem inf174 : (Tryz.prog.info? 174).map (fun i => (i.zero, i.size, i.bytes)) = some (some (.agg #[(.string ByteArray.empty), (.string ByteArray.empty)]), 2, 32) := by kernel_rfl
theorem inf175 : (Tryz.prog.info? 175).map (fun i => (i.zero, i.size, i.bytes)) = some (some (.agg #[(.string ByteArray.empty), (.string ByteArray.empty), (.string ByteArray.empty), (.string ByteArray.empty), (.string ByteArray.empty), (.string ByteArray.empty), (.string ByteArray.empty), (.string ByteArray.empty), (.string ByteArray.empty), (.string ByteArray.empty), (.string ByteArray.empty), (.string ByteArray.empty), (.string ByteArray.empty), (.string ByteArray.empty), (.string ByteArray.empty), (.string ByteArray.empty), (.string ByteArray.empty), (.string ByteArray.empty), (.string ByteArray.empty), (.string ByteArray.empty), (.string ByteArray.empty), (.string ByteArray.empty), (.string ByteArray.empty), (.string ByteArray.empty)]), 24, 384) := by kernel_rfl
theorem inf176 : (Tryz.prog.info? 176).map (fun i => (i.zero, i.size, i.bytes)) = some (some .nilFunc, 1, 8) := by kernel_rfl
theorem inf177 : (Tryz.prog.info? 177).map (fun i => (i.zero, i.size, i.bytes)) = some (some .nilFunc, 1, 8) := by kernel_rfl
theorem inf178 : (Tryz.prog.info? 178).map (fun i => (i.zero, i.size, i.bytes)) = some (some .nilFunc, 1, 8) := by kernel_rfl
theorem inf179 : (Tryz.prog.info? 179).map (fun i => (i.zero, i.size, i.bytes)) = some (some .nilFunc, 1, 8) := by kernel_rfl
theorem inf180 : (Tryz.prog.info? 180).map (fun i => (i.zero, i.size, i.bytes)) = some (some .nilFunc, 1, 8) := by kernel_rfl
theorem inf181 : (Tryz.prog.info? 181).map (fun i => (i.zero, i.size, i.bytes)) = some (some .nilFunc, 1, 8) := by kernel_rfl
theorem inf182 : (Tryz.prog.info? 182).map (fun i => (i.zero, i.size, i.bytes)) = some (some .nilFunc, 1, 8) := by kernel_rfl
theorem inf183 : (Tryz.prog.info? 183).map (fun i => (i.zero, i.size, i.bytes)) = some (some .nilFunc, 1, 8) := by kernel_rfl
theorem inf185 : (Tryz.prog.info? 185).map (fun i => (i.zero, i.size, i.bytes)) = some (some .nilFunc, 1, 8) := by kernel_rfl
theorem inf186 : (Tryz.prog.info? 186).map (fun i => (i.zero, i.size, i.bytes)) = some (some .nilFunc, 1, 8) := by kernel_rfl
theorem inf187 : (Tryz.prog.info? 187).map (fun i => (i.zero, i.size, i.bytes)) = some (some (.agg #[(.int .u8 0), (.int .u8 0), (.int .u8 0), (.int .u8 0), (.int .u8 0), (.int .u8 0), (.int .u8 0), (.int .u8 0), (.int .u8 0), (.int .u8 0), (.int .u8 0), (.int .u8 0), (.int .u8 0), (.int .u8 0), (.int .u8 0), (.int .u8 0), (.int .u8 0), (.int .u8 0), (.int .u8 0), (.int .u8 0), (.int .u8 0), (.int .u8 0), (.int .u8 0), (.int .u8 0)]), 24, 24) := by kernel_rfl
theorem inf188 : (Tryz.prog.info? 188).map (fun i => (i.zero, i.size, i.bytes)) = some (some .nilFunc, 1, 8) := by kernel_rfl
theorem inf189 : (Tryz.prog.info? 189).map (fun i => (i.zero, i.size, i.bytes)) = some (some .nilFunc, 1, 8) := by kernel_rfl
theorem inf191 : (Tryz.prog.info? 191).map (fun i => (i.zero, i.size, i.bytes)) = some (some .nilFunc, 1, 8) := by kernel_rfl
theorem inf192 : (Tryz.prog.info? 192).map (fun i => (i.zero, i.size, i.bytes)) = some (some (.int .i64 0), 1, 8) := by kernel_rfl
theorem inf193 : (Tryz.prog.info? 193).map (fun i => (i.zero, i.size, i.bytes)) = some (some .nilFunc, 1, 8) := by kernel_rfl
theorem inf194 : (Tryz.prog.info? 194).map (fun i => (i.zero, i.size, i.bytes)) = some (some (.int .u64 0), 1, 8) := by kernel_rfl
theorem inf195 : (Tryz.prog.info? 195).map (fun i => (i.zero, i.size, i.bytes)) = some (some (.pointer none), 1, 8) := by kernel_rfl
theorem inf196 : (Tryz.prog.info? 196).map (fun i => (i.zero, i.size, i.bytes)) = some (some .nilFunc, 1, 8) := by kernel_rfl
theorem inf197 : (Tryz.prog.info? 197).map (fun i => (i.zero, i.size, i.bytes)) = some (some .nilFunc, 1, 8) := by kernel_rfl
theorem inf198 : (Tryz.prog.info? 198).map (fun i => (i.zero, i.size, i.bytes)) = some (some .nilFunc, 1, 8) := by kernel_rfl
theorem inf199 : (Tryz.prog.info? 199).map (fun i => (i.zero, i.size, i.bytes)) = some (some (.pointer none), 1, 8) := by kernel_rfl
theorem inf200 : (Tryz.prog.info? 200).map (fun i => (i.zero, i.size, i.bytes)) = some (some .nilFunc, 1, 8) := by kernel_rfl
theorem inf201 : (Tryz.prog.info? 201).map (fun i => (i.zero, i.size, i.bytes)) = some (some .nilFunc, 1, 8) := by kernel_rfl
theorem inf202 : (Tryz.prog.info? 202).map (fun i => (i.zero, i.size, i.bytes)) = some (some .nilFunc, 1, 8) := by kernel_rfl
theorem inf203 : (Tryz.prog.info? 203).map (fun i => (i.zero, i.size, i.bytes)) = some (some .nilFunc, 1, 8) := by kernel_rfl
theorem inf204 : (Tryz.prog.info? 204).map (fun i => (i.zero, i.size, i.bytes)) = some (some (.agg #[(.int .u64 0), (.int .u64 0), (.int .u64 0), (.int .u64 0), (.int .u64 0), (.int .u64 0), (.int .u64 0), (.int .u64 0), (.int .u64 0), (.int .u64 0), (.int .u64 0), (.int .u64 0), (.int .u64 0), (.int .u64 0), (.int .u64 0), (.int .u64 0), (.int .u64 0), (.int .u64 0), (.int .u64 0), (.int .u64 0)]), 20, 160) := by kernel_rfl
theorem inf205 : (Tryz.prog.info? 205).map (fun i => (i.zero, i.size, i.bytes)) = some (some (.int .u32 0), 1, 4) := by kernel_rfl
theorem inf206 : (Tryz.prog.info? 206).map (fun i => (i.zero, i.size, i.bytes)) = some (some (.agg #[(.int .u8 0), (.int .u8 0), (.int .u8 0), (.int .u8 0), (.int .u8 0), (.int .u8 0), (.int .u8 0), (.int .u8 0), (.int .u8 0), (.int .u8 0), (.int .u8 0), (.int .u8 0), (.int .u8 0), (.int .u8 0), (.int .u8 0), (.int .u8 0), (.int .u8 0), (.int .u8 0), (.int .u8 0), (.int .u8 0), (.int .u8 0), (.int .u8 0), (.int .u8 0), (.int .u8 0), (.int .u8 0), (.int .u8 0), (.int .u8 0), (.int .u8 0), (.int .u8 0), (.int .u8 0), (.int .u8 0), (.int .u8 0), (.int .u8 0), (.int .u8 0), (.int .u8 0), (.int .u8 0), (.int .u8 0), (.int .u8 0), (.int .u8 0), (.int .u8 0), (.int .u8 0), (.int .u8 0), (.int .u8 0), (.int .u8 0), (.int .u8 0), (.int .u8 0), (.int .u8 0), (.int .u8 0), (.int .u8 0), (.int .u8 0), (.int .u8 0), (.int .u8 0), (.int .u8 0), (.int .u8 0), (.int .u8 0), (.int .u8 0), (.int .u8 0), (.int .u8 0), (.int .u8 0), (.int .u8 0), (.int .u8 0), (.int .u8 0), (.int .u8 0), (.int .u8 0), (.int .u8 0)]), 65, 65) := by kernel_rfl
theorem inf207 : (Tryz.prog.info? 207).map (fun i => (i.zero, i.size, i.bytes)) = some (some .nilFunc, 1, 8) := by kernel_rfl
theorem inf208 : (Tryz.prog.info? 208).map (fun i => (i.zero, i.size, i.bytes)) = some (some .nilFunc, 1, 8) := by kernel_rfl
theorem inf209 : (Tryz.prog.info? 209).map (fun i => (i.zero, i.size, i.bytes)) = some (some .nilFunc, 1, 8) := by kernel_rfl
theorem inf210 : (Tryz.prog.info? 210).map (fun i => (i.zero, i.size, i.bytes)) = some (some (.agg #[(.string ByteArray.empty), (.string ByteArray.empty), .nilIface]), 3, 48) := by kernel_rfl
theorem inf211 : (Tryz.prog.info? 211).map (fun i => (i.zero, i.size, i.bytes)) = some (some (.agg #[(.string ByteArray.empty), (.string ByteArray.empty), .nilIface]), 3, 48) := by kernel_rfl
theorem inf212 : (Tryz.prog.info? 212).map (fun i => (i.zero, i.size, i.bytes)) = some (some .nilFunc, 1, 8) := by kernel_rfl
theorem inf213 : (Tryz.prog.info? 213).map (fun i => (i.zero, i.size, i.bytes)) = some (some .nilFunc, 1, 8) := by kernel_rfl
theorem inf214 : (Tryz.prog.info? 214).map (fun i => (i.zero, i.size, i.bytes)) = some (some (.pointer none), 1, 8) := by kernel_rfl
theorem inf215 : (Tryz.prog.info? 215).map (fun i => (i.zero, i.size, i.bytes)) = some (some (.agg #[(.string ByteArray.empty)]), 1, 16) := by kernel_rfl
theorem inf216 : (Tryz.prog.info? 216).map (fun i => (i.zero, i.size, i.bytes)) = some (some (.agg #[(.string ByteArray.empty)]), 1, 16) := by kernel_rfl
theorem inf217 : (Tryz.prog.info? 217).map (fun i => (i.zero, i.size, i.bytes)) = some (some (.agg #[(.int .u8 0), (.int .u8 0), (.int .u8 0), (.int .u8 0), (.int .u8 0), (.int .u8 0), (.int .u8 0), (.int .u8 0), (.int .u8 0), (.int .u8 0), (.int .u8 0), (.int .u8 0), (.int .u8 0), (.int .u8 0), (.int .u8 0), (.int .u8 0), (.int .u8 0), (.int .u8 0), (.int .u8 0), (.int .u8 0), (.int .u8 0), (.int .u8 0), (.int .u8 0), (.int .u8 0), (.int .u8 0), (.int .u8 0), (.int .u8 0), (.int .u8 0), (.int .u8 0), (.int .u8 0), (.int .u8 0), (.int .u8 0)]), 32, 32) := by kernel_rfl
theorem inf218 : (Tryz.prog.info? 218).map (fun i => (i.zero, i.size, i.bytes)) = some (some (.agg #[(.int .u8 0), (.int .u8 0), (.int .u8 0), (.int .u8 0), (.int .u8 0), (.int .u8 0), (.int .u8 0), (.int .u8 0), (.int .u8 0), (.int .u8 0), (.int .u8 0), (.int .u8 0), (.int .u8 0), (.int .u8 0), (.int .u8 0), (.int .u8 0), (.int .u8 0), (.int .u8 0), (.int .u8 0), (.int .u8 0), (.int .u8 0), (.int .u8 0), (.int .u8 0), (.int .u8 0), (.int .u8 0), (.int .u8 0), (.int .u8 0), (.int .u8 0), (.int .u8 0), (.int .u8 0), (.int .u8 0), (.int .u8 0), (.int .u8 0), (.int .u8 0), (.int .u8 0), (.int .u8 0), (.int .u8 0), (.int .u8 0), (.int .u8 0), (.int .u8 0), (.int .u8 0), (.int .u8 0), (.int .u8 0), (.int .u8 0), (.int .u8 0), (.int .u8 0), (.int .u8 0), (.int .u8 0), (.int .u8 0), (.int .u8 0), (.int .u8 0), (.int .u8 0), (.int .u8 0), (.int .u8 0), (.int .u8 0), (.int .u8 0), (.int .u8 0), (.int .u8 0), (.int .u8 0), (.int .u8 0), (.int .u8 0), (.int .u8 0), (.int .u8 0), (.int .u8 0)]), 64, 64) := by kernel_rfl
theorem inf219 : (Tryz.prog.info? 219).map (fun i => (i.zero, i.size, i.bytes)) = some (some (.agg #[(.pointer none), (.pointer none), (.pointer none), (.string ByteArray.empty)]), 4, 40) := by kernel_rfl
theorem inf221 : (Tryz.prog.info? 221).map (fun i => (i.zero, i.size, i.bytes)) = some (some (.agg #[]), 0, 0) := by kernel_rfl
theorem inf222 : (Tryz.prog.info? 222).map (fun i => (i.zero, i.size, i.bytes)) = some (some (.agg #[]), 0, 0) := by kernel_rfl
theorem inf224 : (Tryz.prog.info? 224).map (fun i => (i.zero, i.size, i.bytes)) = some (some .nilFunc, 1, 8) := by kernel_rfl
theorem inf226 : (Tryz.prog.info? 226).map (fun i => (i.zero, i.size, i.bytes)) = some (some .nilFunc, 1, 8) := by kernel_rfl
theorem inf229 : (Tryz.prog.info? 229).map (fun i => (i.zero, i.size, i.bytes)) = some (some (.agg #[(.int .u64 0), (.int .u64 0), (.int .u32 0), (.int .u8 0), (.int .u8 0), (.int .u8 0), (.int .u8 0), .nilFunc, (.pointer none), (.int .i32 0), (.int .i32 0)]), 11, 48) := by kernel_rfl
theorem inf231 : (Tryz.prog.info? 231).map (fun i => (i.zero, i.size, i.bytes)) = some (some .nilFunc, 1, 8) := by kernel_rfl
theorem inf232 : (Tryz.prog.info? 232).map (fun i => (i.zero, i.size, i.bytes)) = some (some .nilFunc, 1, 8) := by kernel_rfl
theorem inf233 : (Tryz.prog.info? 233).map (fun i => (i.zero, i.size, i.bytes)) = some (some (.agg #[(.string ByteArray.empty), (.int .u8 0)]), 2, 24) := by kernel_rfl
theorem inf234 : (Tryz.prog.info? 234).map (fun i => (i.zero, i.size, i.bytes)) = some (some (.agg #[(.string ByteArray.empty), (.int .u8 0)]), 2, 24) := by kernel_rfl
theorem inf236 : (Tryz.prog.info? 236).map (fun i => (i.zero, i.size, i.bytes)) = some (some .nilFunc, 1, 8) := by kernel_rfl
theorem inf237 : (Tryz.prog.info? 237).map (fun i => (i.zero, i.size, i.bytes)) = some (some (.int .u16 0), 1, 2) := by kernel_rfl
theorem inf238 : (Tryz.prog.info? 238).map (fun i => (i.zero, i.size, i.bytes)) = some (some (.agg #[(.int .i32 0), (.int .u16 0), (.int .u16 0), (.int .u32 0), (.int .u32 0)]), 5, 16) := by kernel_rfl
theorem inf240 : (Tryz.prog.info? 240).map (fun i => (i.zero, i.size, i.bytes)) = some (some (.slice none 0 0), 1, 24) := by kernel_rfl
theorem inf242 : (Tryz.prog.info? 242).map (fun i => (i.zero, i.size, i.bytes)) = some (some (.agg #[(.int .i32 0), (.int .i32 0), (.int .i32 0), (.int .i32 0)]), 4, 16) := by kernel_rfl
theorem inf244 : (Tryz.prog.info? 244).map (fun i => (i.zero, i.size, i.bytes)) = some (some (.pointer none), 1, 8) := by kernel_rfl
instance : TZeroC Tryz.prog 1 [.nilFunc] := ⟨let ⟨i, a, b, _, _⟩ := info_of inf1; ⟨i, _, a, b, rfl⟩⟩
instance : TCell Tryz.prog 1 := ⟨⟨_, Tryz.underlying1, rfl⟩, let ⟨i, a, _, c, _⟩ := info_of inf1; ⟨i, a, c⟩⟩
instance : TZeroC Tryz.prog 2 [(.int .i64 0)] := ⟨let ⟨i, a, b, _, _⟩ := info_of inf2; ⟨i, _, a, b, rfl⟩⟩
instance : TCell Tryz.prog 2 := ⟨⟨_, Tryz.underlying2, rfl⟩, let ⟨i, a, _, c, _⟩ := info_of inf2; ⟨i, a, c⟩⟩
instance : TInt Tryz.prog 2 .i64 := ⟨Tryz.underlying2⟩
instance : TZeroC Tryz.prog 3 [(.int .i64 0)] := ⟨let ⟨i, a, b, _, _⟩ := info_of inf3; ⟨i, _, a, b, rfl⟩⟩
instance : TCell Tryz.prog 3 := ⟨⟨_, Tryz.underlying3, rfl⟩, let ⟨i, a, _, c, _⟩ := info_of inf3; ⟨i, a, c⟩⟩
instance : TInt Tryz.prog 3 .i64 := ⟨Tryz.underlying3⟩
instance : TZeroC Tryz.prog 4 [(.bool false)] := ⟨let ⟨i, a, b, _, _⟩ := info_of inf4; ⟨i, _, a, b, rfl⟩⟩
instance : TCell Tryz.prog 4 := ⟨⟨_, Tryz.underlying4, rfl⟩, let ⟨i, a, _, c, _⟩ := info_of inf4; ⟨i, a, c⟩⟩
instance : TBool Tryz.prog 4 := ⟨Tryz.underlying4⟩
instance : TZeroC Tryz.prog 5 [(.int .u8 0)] := ⟨let ⟨i, a, b, _, _⟩ := info_of inf5; ⟨i, _, a, b, rfl⟩⟩
instance : TCell Tryz.prog 5 := ⟨⟨_, Tryz.underlying5, rfl⟩, let ⟨i, a, _, c, _⟩ := info_of inf5; ⟨i, a, c⟩⟩
instance : TInt Tryz.prog 5 .u8 := ⟨Tryz.underlying5⟩
instance : TZeroC Tryz.prog 7 [(.int .i64 0), (.int .i64 0), (.bool false), (.int .u8 0)] := ⟨let ⟨i, a, b, _, _⟩ := info_of inf7; ⟨i, _, a, b, rfl⟩⟩
instance : TAgg Tryz.prog 7 4 := ⟨⟨_, Tryz.underlying7, rfl⟩, let ⟨i, a, _, c, _⟩ := info_of inf7; ⟨i, a, c⟩⟩
instance : TFld Tryz.prog 7 0 0 := ⟨let ⟨i, a, _, c, _⟩ := info_of inf2; ⟨_, _, i, Tryz.underlying7, rfl, rfl, a, by rw [c]; decide⟩⟩
instance : TFld Tryz.prog 7 1 1 := ⟨let ⟨i, a, _, c, _⟩ := info_of inf3; ⟨_, _, i, Tryz.underlying7, rfl, rfl, a, by rw [c]; decide⟩⟩
instance : TFld Tryz.prog 7 2 2 := ⟨let ⟨i, a, _, c, _⟩ := info_of inf4; ⟨_, _, i, Tryz.underlying7, rfl, rfl, a, by rw [c]; decide⟩⟩
instance : TFldV Tryz.prog 7 0 0 := ⟨⟨_, _, _, Tryz.underlying7, rfl, rfl, Tryz.underlying2, rfl⟩⟩
instance : TFldV Tryz.prog 7 1 1 := ⟨⟨_, _, _, Tryz.underlying7, rfl, rfl, Tryz.underlying3, rfl⟩⟩
instance : TFldV Tryz.prog 7 2 2 := ⟨⟨_, _, _, Tryz.underlying7, rfl, rfl, Tryz.underlying4, rfl⟩⟩
instance : TZeroC Tryz.prog 9 [(.string ByteArray.empty)] := ⟨let ⟨i, a, b, _, _⟩ := info_of inf9; ⟨i, _, a, b, rfl⟩⟩
instance : TCell Tryz.prog 9 := ⟨⟨_, Tryz.underlying9, rfl⟩, let ⟨i, a, _, c, _⟩ := info_of inf9; ⟨i, a, c⟩⟩
instance : TStr Tryz.prog 9 := ⟨Tryz.underlying9⟩
instance : TZeroC Tryz.prog 12 [(.int .u64 0)] := ⟨let ⟨i, a, b, _, _⟩ := info_of inf12; ⟨i, _, a, b, rfl⟩⟩
instance : TCell Tryz.prog 12 := ⟨⟨_, Tryz.underlying12, rfl⟩, let ⟨i, a, _, c, _⟩ := info_of inf12; ⟨i, a, c⟩⟩
instance : TInt Tryz.prog 12 .u64 := ⟨Tryz.underlying12⟩
instance : TZeroC Tryz.prog 13 [(.string ByteArray.empty), (.int .u64 0)] := ⟨let ⟨i, a, b, _, _⟩ := info_of inf13; ⟨i, _, a, b, rfl⟩⟩
instance : TAgg Tryz.prog 13 2 := ⟨⟨_, Tryz.underlying13, rfl⟩, let ⟨i, a, _, c, _⟩ := info_of inf13; ⟨i, a, c⟩⟩
instance : TFld Tryz.prog 13 0 0 := ⟨let ⟨i, a, _, c, _⟩ := info_of inf9; ⟨_, _, i, Tryz.underlying13, rfl, rfl, a, by rw [c]; decide⟩⟩
instance : TFld Tryz.prog 13 1 1 := ⟨let ⟨i, a, _, c, _⟩ := info_of inf12; ⟨_, _, i, Tryz.underlying13, rfl, rfl, a, by rw [c]; decide⟩⟩
instance : TFldV Tryz.prog 13 0 0 := ⟨⟨_, _, _, Tryz.underlying13, rfl, rfl, Tryz.underlying9, rfl⟩⟩
instance : TFldV Tryz.prog 13 1 1 := ⟨⟨_, _, _, Tryz.underlying13, rfl, rfl, Tryz.underlying12, rfl⟩⟩
instance : TStruct Tryz.prog 13 [(0, 1), (1, 1)] [(.string ByteArray.empty), (.int .u64 0)] := ⟨let ⟨i, a, b, _, _⟩ := info_of inf13; ⟨i, _, _, a, b, rfl, Tryz.underlying13, by kernel_rfl⟩⟩
instance : TZeroC Tryz.prog 18 [(.pointer none)] := ⟨let ⟨i, a, b, _, _⟩ := info_of inf18; ⟨i, _, a, b, rfl⟩⟩
instance : TAgg Tryz.prog 18 1 := ⟨⟨_, Tryz.underlying18, rfl⟩, let ⟨i, a, _, c, _⟩ := info_of inf18; ⟨i, a, c⟩⟩
instance : TZeroC Tryz.prog 20 [.nilIface] := ⟨let ⟨i, a, b, _, _⟩ := info_of inf20; ⟨i, _, a, b, rfl⟩⟩
instance : TCell Tryz.prog 20 := ⟨⟨_, Tryz.underlying20, rfl⟩, let ⟨i, a, _, c, _⟩ := info_of inf20; ⟨i, a, c⟩⟩
instance : TIfc Tryz.prog 20 := ⟨_, Tryz.underlying20⟩
instance : TZeroC Tryz.prog 21 [(.int .i32 0)] := ⟨let ⟨i, a, b, _, _⟩ := info_of inf21; ⟨i, _, a, b, rfl⟩⟩
instance : TCell Tryz.prog 21 := ⟨⟨_, Tryz.underlying21, rfl⟩, let ⟨i, a, _, c, _⟩ := info_of inf21; ⟨i, a, c⟩⟩
instance : TInt Tryz.prog 21 .i32 := ⟨Tryz.underlying21⟩
instance : TZeroC Tryz.prog 22 [(.slice none 0 0)] := ⟨let ⟨i, a, b, _, _⟩ := info_of inf22; ⟨i, _, a, b, rfl⟩⟩
instance : TCell Tryz.prog 22 := ⟨⟨_, Tryz.underlying22, rfl⟩, let ⟨i, a, _, c, _⟩ := info_of inf22; ⟨i, a, c⟩⟩
instance : TSlice Tryz.prog 22 57 5 := ⟨let ⟨i, a, _, c, _⟩ := info_of inf57; ⟨i, Tryz.underlying22, a, c⟩⟩
instance : TElem Tryz.prog 22 57 5 80 [(.string ByteArray.empty), (.int .i64 0), (.int .i64 0), (.slice none 0 0), (.slice none 0 0)] := ⟨let ⟨i, a, b, c, d⟩ := info_of inf57; ⟨i, _, Tryz.underlying22, a, c, d, b, rfl, rfl⟩⟩
instance : TZeroC Tryz.prog 23 [(.slice none 0 0)] := ⟨let ⟨i, a, b, _, _⟩ := info_of inf23; ⟨i, _, a, b, rfl⟩⟩
instance : TAgg Tryz.prog 23 1 := ⟨⟨_, Tryz.underlying23, rfl⟩, let ⟨i, a, _, c, _⟩ := info_of inf23; ⟨i, a, c⟩⟩
instance : TFld Tryz.prog 23 0 0 := ⟨let ⟨i, a, _, c, _⟩ := info_of inf22; ⟨_, _, i, Tryz.underlying23, rfl, rfl, a, by rw [c]; decide⟩⟩
instance : TFldV Tryz.prog 23 0 0 := ⟨⟨_, _, _, Tryz.underlying23, rfl, rfl, Tryz.underlying22, rfl⟩⟩
instance : TStruct Tryz.prog 23 [(0, 1)] [(.slice none 0 0)] := ⟨let ⟨i, a, b, _, _⟩ := info_of inf23; ⟨i, _, _, a, b, rfl, Tryz.underlying23, by kernel_rfl⟩⟩
instance : TZeroC Tryz.prog 24 [(.slice none 0 0)] := ⟨let ⟨i, a, b, _, _⟩ := info_of inf24; ⟨i, _, a, b, rfl⟩⟩
instance : TAgg Tryz.prog 24 1 := ⟨⟨_, Tryz.underlying24, rfl⟩, let ⟨i, a, _, c, _⟩ := info_of inf24; ⟨i, a, c⟩⟩
instance : TFld Tryz.prog 24 0 0 := ⟨let ⟨i, a, _, c, _⟩ := info_of inf22; ⟨_, _, i, Tryz.underlying24, rfl, rfl, a, by rw [c]; decide⟩⟩
instance : TFldV Tryz.prog 24 0 0 := ⟨⟨_, _, _, Tryz.underlying24, rfl, rfl, Tryz.underlying22, rfl⟩⟩
instance : TStruct Tryz.prog 24 [(0, 1)] [(.slice none 0 0)] := ⟨let ⟨i, a, b, _, _⟩ := info_of inf24; ⟨i, _, _, a, b, rfl, Tryz.underlying24, by kernel_rfl⟩⟩
instance : TZeroC Tryz.prog 25 [.nilFunc] := ⟨let ⟨i, a, b, _, _⟩ := info_of inf25; ⟨i, _, a, b, rfl⟩⟩
instance : TCell Tryz.prog 25 := ⟨⟨_, Tryz.underlying25, rfl⟩, let ⟨i, a, _, c, _⟩ := info_of inf25; ⟨i, a, c⟩⟩
instance : TZeroC Tryz.prog 26 [.nilIface] := ⟨let ⟨i, a, b, _, _⟩ := info_of inf26; ⟨i, _, a, b, rfl⟩⟩
instance : TCell Tryz.prog 26 := ⟨⟨_, Tryz.underlying26, rfl⟩, let ⟨i, a, _, c, _⟩ := info_of inf26; ⟨i, a, c⟩⟩
instance : TIfc Tryz.prog 26 := ⟨_, Tryz.underlying26⟩
instance : TZeroC Tryz.prog 27 [.nilIface] := ⟨let ⟨i, a, b, _, _⟩ := info_of inf27; ⟨i, _, a, b, rfl⟩⟩
instance : TCell Tryz.prog 27 := ⟨⟨_, Tryz.underlying27, rfl⟩, let ⟨i, a, _, c, _⟩ := info_of inf27; ⟨i, a, c⟩⟩
instance : TIfc Tryz.prog 27 := ⟨_, Tryz.underlying27⟩
instance : TZeroC Tryz.prog 28 [.nilFunc] := ⟨let ⟨i, a, b, _, _⟩ := info_of inf28; ⟨i, _, a, b, rfl⟩⟩
instance : TCell Tryz.prog 28 := ⟨⟨_, Tryz.underlying28, rfl⟩, let ⟨i, a, _, c, _⟩ := info_of inf28; ⟨i, a, c⟩⟩
instance : TZeroC Tryz.prog 29 [(.int .i64 0)] := ⟨let ⟨i, a, b, _, _⟩ := info_of inf29; ⟨i, _, a, b, rfl⟩⟩
instance : TCell Tryz.prog 29 := ⟨⟨_, Tryz.underlying29, rfl⟩, let ⟨i, a, _, c, _⟩ := info_of inf29; ⟨i, a, c⟩⟩
instance : TInt Tryz.prog 29 .i64 := ⟨Tryz.underlying29⟩
instance : TZeroC Tryz.prog 31 [.nilFunc] := ⟨let ⟨i, a, b, _, _⟩ := info_of inf31; ⟨i, _, a, b, rfl⟩⟩
instance : TCell Tryz.prog 31 := ⟨⟨_, Tryz.underlying31, rfl⟩, let ⟨i, a, _, c, _⟩ := info_of inf31; ⟨i, a, c⟩⟩
instance : TZeroC Tryz.prog 33 [.nilFunc] := ⟨let ⟨i, a, b, _, _⟩ := info_of inf33; ⟨i, _, a, b, rfl⟩⟩
instance : TCell Tryz.prog 33 := ⟨⟨_, Tryz.underlying33, rfl⟩, let ⟨i, a, _, c, _⟩ := info_of inf33; ⟨i, a, c⟩⟩
instance : TZeroC Tryz.prog 34 [.nilFunc] := ⟨let ⟨i, a, b, _, _⟩ := info_of inf34; ⟨i, _, a, b, rfl⟩⟩
instance : TCell Tryz.prog 34 := ⟨⟨_, Tryz.underlying34, rfl⟩, let ⟨i, a, _, c, _⟩ := info_of inf34; ⟨i, a, c⟩⟩
instance : TZeroC Tryz.prog 35 [.nilFunc] := ⟨let ⟨i, a, b, _, _⟩ := info_of inf35; ⟨i, _, a, b, rfl⟩⟩
instance : TCell Tryz.prog 35 := ⟨⟨_, Tryz.underlying35, rfl⟩, let ⟨i, a, _, c, _⟩ := info_of inf35; ⟨i, a, c⟩⟩
instance : TZeroC Tryz.prog 36 [.nilFunc] := ⟨let ⟨i, a, b, _, _⟩ := info_of inf36; ⟨i, _, a, b, rfl⟩⟩
instance : TCell Tryz.prog 36 := ⟨⟨_, Tryz.underlying36, rfl⟩, let ⟨i, a, _, c, _⟩ := info_of inf36; ⟨i, a, c⟩⟩
instance : TZeroC Tryz.prog 37 [(.int .i64 0), (.string ByteArray.empty), (.string ByteArray.empty), (.string ByteArray.empty), (.int .i64 0), (.int .i64 0), (.int .i64 0)] := ⟨let ⟨i, a, b, _, _⟩ := info_of inf37; ⟨i, _, a, b, rfl⟩⟩
instance : TAgg Tryz.prog 37 7 := ⟨⟨_, Tryz.underlying37, rfl⟩, let ⟨i, a, _, c, _⟩ := info_of inf37; ⟨i, a, c⟩⟩
instance : TFld Tryz.prog 37 0 0 := ⟨let ⟨i, a, _, c, _⟩ := info_of inf3; ⟨_, _, i, Tryz.underlying37, rfl, rfl, a, by rw [c]; decide⟩⟩
instance : TFld Tryz.prog 37 1 1 := ⟨let ⟨i, a, _, c, _⟩ := info_of inf9; ⟨_, _, i, Tryz.underlying37, rfl, rfl, a, by rw [c]; decide⟩⟩
instance : TFld Tryz.prog 37 2 2 := ⟨let ⟨i, a, _, c, _⟩ := info_of inf9; ⟨_, _, i, Tryz.underlying37, rfl, rfl, a, by rw [c]; decide⟩⟩
instance : TFld Tryz.prog 37 3 3 := ⟨let ⟨i, a, _, c, _⟩ := info_of inf9; ⟨_, _, i, Tryz.underlying37, rfl, rfl, a, by rw [c]; decide⟩⟩
instance : TFld Tryz.prog 37 4 4 := ⟨let ⟨i, a, _, c, _⟩ := info_of inf3; ⟨_, _, i, Tryz.underlying37, rfl, rfl, a, by rw [c]; decide⟩⟩
instance : TFld Tryz.prog 37 5 5 := ⟨let ⟨i, a, _, c, _⟩ := info_of inf3; ⟨_, _, i, Tryz.underlying37, rfl, rfl, a, by rw [c]; decide⟩⟩
instance : TFld Tryz.prog 37 6 6 := ⟨let ⟨i, a, _, c, _⟩ := info_of inf3; ⟨_, _, i, Tryz.underlying37, rfl, rfl, a, by rw [c]; decide⟩⟩
instance : TFldV Tryz.prog 37 0 0 := ⟨⟨_, _, _, Tryz.underlying37, rfl, rfl, Tryz.underlying3, rfl⟩⟩
instance : TFldV Tryz.prog 37 1 1 := ⟨⟨_, _, _, Tryz.underlying37, rfl, rfl, Tryz.underlying9, rfl⟩⟩
instance : TFldV Tryz.prog 37 2 2 := ⟨⟨_, _, _, Tryz.underlying37, rfl, rfl, Tryz.underlying9, rfl⟩⟩
instance : TFldV Tryz.prog 37 3 3 := ⟨⟨_, _, _, Tryz.underlying37, rfl, rfl, Tryz.underlying9, rfl⟩⟩
instance : TFldV Tryz.prog 37 4 4 := ⟨⟨_, _, _, Tryz.underlying37, rfl, rfl, Tryz.underlying3, rfl⟩⟩
instance : TFldV Tryz.prog 37 5 5 := ⟨⟨_, _, _, Tryz.underlying37, rfl, rfl, Tryz.underlying3, rfl⟩⟩
instance : TFldV Tryz.prog 37 6 6 := ⟨⟨_, _, _, Tryz.underlying37, rfl, rfl, Tryz.underlying3, rfl⟩⟩
instance : TStruct Tryz.prog 37 [(0, 1), (1, 1), (2, 1), (3, 1), (4, 1), (5, 1), (6, 1)] [(.int .i64 0), (.string ByteArray.empty), (.string ByteArray.empty), (.string ByteArray.empty), (.int .i64 0), (.int .i64 0), (.int .i64 0)] := ⟨let ⟨i, a, b, _, _⟩ := info_of inf37; ⟨i, _, _, a, b, rfl, Tryz.underlying37, by kernel_rfl⟩⟩
instance : TZeroC Tryz.prog 38 [(.int .i64 0), (.string ByteArray.empty), (.string ByteArray.empty), (.string ByteArray.empty), (.int .i64 0), (.int .i64 0), (.int .i64 0)] := ⟨let ⟨i, a, b, _, _⟩ := info_of inf38; ⟨i, _, a, b, rfl⟩⟩
instance : TAgg Tryz.prog 38 7 := ⟨⟨_, Tryz.underlying38, rfl⟩, let ⟨i, a, _, c, _⟩ := info_of inf38; ⟨i, a, c⟩⟩
instance : TFld Tryz.prog 38 0 0 := ⟨let ⟨i, a, _, c, _⟩ := info_of inf3; ⟨_, _, i, Tryz.underlying38, rfl, rfl, a, by rw [c]; decide⟩⟩
instance : TFld Tryz.prog 38 1 1 := ⟨let ⟨i, a, _, c, _⟩ := info_of inf9; ⟨_, _, i, Tryz.underlying38, rfl, rfl, a, by rw [c]; decide⟩⟩
instance : TFld Tryz.prog 38 2 2 := ⟨let ⟨i, a, _, c, _⟩ := info_of inf9; ⟨_, _, i, Tryz.underlying38, rfl, rfl, a, by rw [c]; decide⟩⟩
instance : TFld Tryz.prog 38 3 3 := ⟨let ⟨i, a, _, c, _⟩ := info_of inf9; ⟨_, _, i, Tryz.underlying38, rfl, rfl, a, by rw [c]; decide⟩⟩
instance : TFld Tryz.prog 38 4 4 := ⟨let ⟨i, a, _, c, _⟩ := info_of inf3; ⟨_, _, i, Tryz.underlying38, rfl, rfl, a, by rw [c]; decide⟩⟩
instance : TFld Tryz.prog 38 5 5 := ⟨let ⟨i, a, _, c, _⟩ := info_of inf3; ⟨_, _, i, Tryz.underlying38, rfl, rfl, a, by rw [c]; decide⟩⟩
instance : TFld Tryz.prog 38 6 6 := ⟨let ⟨i, a, _, c, _⟩ := info_of inf3; ⟨_, _, i, Tryz.underlying38, rfl, rfl, a, by rw [c]; decide⟩⟩
instance : TFldV Tryz.prog 38 0 0 := ⟨⟨_, _, _, Tryz.underlying38, rfl, rfl, Tryz.underlying3, rfl⟩⟩
instance : TFldV Tryz.prog 38 1 1 := ⟨⟨_, _, _, Tryz.underlying38, rfl, rfl, Tryz.underlying9, rfl⟩⟩
instance : TFldV Tryz.prog 38 2 2 := ⟨⟨_, _, _, Tryz.underlying38, rfl, rfl, Tryz.underlying9, rfl⟩⟩
instance : TFldV Tryz.prog 38 3 3 := ⟨⟨_, _, _, Tryz.underlying38, rfl, rfl, Tryz.underlying9, rfl⟩⟩
instance : TFldV Tryz.prog 38 4 4 := ⟨⟨_, _, _, Tryz.underlying38, rfl, rfl, Tryz.underlying3, rfl⟩⟩
instance : TFldV Tryz.prog 38 5 5 := ⟨⟨_, _, _, Tryz.underlying38, rfl, rfl, Tryz.underlying3, rfl⟩⟩
instance : TFldV Tryz.prog 38 6 6 := ⟨⟨_, _, _, Tryz.underlying38, rfl, rfl, Tryz.underlying3, rfl⟩⟩
instance : TFlat Tryz.prog 38 [.int .i64, .str, .str, .str, .int .i64, .int .i64, .int .i64] := ⟨⟨_, Tryz.underlying38, by kernel_rfl⟩, by kernel_rfl, by kernel_rfl⟩
instance : TStruct Tryz.prog 38 [(0, 1), (1, 1), (2, 1), (3, 1), (4, 1), (5, 1), (6, 1)] [(.int .i64 0), (.string ByteArray.empty), (.string ByteArray.empty), (.string ByteArray.empty), (.int .i64 0), (.int .i64 0), (.int .i64 0)] := ⟨let ⟨i, a, b, _, _⟩ := info_of inf38; ⟨i, _, _, a, b, rfl, Tryz.underlying38, by kernel_rfl⟩⟩
instance : TZeroC Tryz.prog 39 [.nilFunc] := ⟨let ⟨i, a, b, _, _⟩ := info_of inf39; ⟨i, _, a, b, rfl⟩⟩
instance : TCell Tryz.prog 39 := ⟨⟨_, Tryz.underlying39, rfl⟩, let ⟨i, a, _, c, _⟩ := info_of inf39; ⟨i, a, c⟩⟩
instance : TZeroC Tryz.prog 40 [(.slice none 0 0)] := ⟨let ⟨i, a, b, _, _⟩ := info_of inf40; ⟨i, _, a, b, rfl⟩⟩
instance : TCell Tryz.prog 40 := ⟨⟨_, Tryz.underlying40, rfl⟩, let ⟨i, a, _, c, _⟩ := info_of inf40; ⟨i, a, c⟩⟩
instance : TSlice Tryz.prog 40 3 1 := ⟨let ⟨i, a, _, c, _⟩ := info_of inf3; ⟨i, Tryz.underlying40, a, c⟩⟩
instance : TElem Tryz.prog 40 3 1 8 [(.int .i64 0)] := ⟨let ⟨i, a, b, c, d⟩ := info_of inf3; ⟨i, _, Tryz.underlying40, a, c, d, b, rfl, rfl⟩⟩
instance : TZeroC Tryz.prog 41 [.nilFunc] := ⟨let ⟨i, a, b, _, _⟩ := info_of inf41; ⟨i, _, a, b, rfl⟩⟩
instance : TCell Tryz.prog 41 := ⟨⟨_, Tryz.underlying41, rfl⟩, let ⟨i, a, _, c, _⟩ := info_of inf41; ⟨i, a, c⟩⟩
instance : TZeroC Tryz.prog 42 [.nilFunc] := ⟨let ⟨i, a, b, _, _⟩ := info_of inf42; ⟨i, _, a, b, rfl⟩⟩
instance : TCell Tryz.prog 42 := ⟨⟨_, Tryz.underlying42, rfl⟩, let ⟨i, a, _, c, _⟩ := info_of inf42; ⟨i, a, c⟩⟩
instance : TZeroC Tryz.prog 43 [.nilFunc] := ⟨let ⟨i, a, b, _, _⟩ := info_of inf43; ⟨i, _, a, b, rfl⟩⟩
instance : TCell Tryz.prog 43 := ⟨⟨_, Tryz.underlying43, rfl⟩, let ⟨i, a, _, c, _⟩ := info_of inf43; ⟨i, a, c⟩⟩
instance : TZeroC Tryz.prog 44 [(.bool false), (.int .i64 0)] := ⟨let ⟨i, a, b, _, _⟩ := info_of inf44; ⟨i, _, a, b, rfl⟩⟩
instance : TAgg Tryz.prog 44 2 := ⟨⟨_, Tryz.underlying44, rfl⟩, let ⟨i, a, _, c, _⟩ := info_of inf44; ⟨i, a, c⟩⟩
instance : TFld Tryz.prog 44 0 0 := ⟨let ⟨i, a, _, c, _⟩ := info_of inf4; ⟨_, _, i, Tryz.underlying44, rfl, rfl, a, by rw [c]; decide⟩⟩
instance : TFld Tryz.prog 44 1 1 := ⟨let ⟨i, a, _, c, _⟩ := info_of inf29; ⟨_, _, i, Tryz.underlying44, rfl, rfl, a, by rw [c]; decide⟩⟩
instance : TFldV Tryz.prog 44 0 0 := ⟨⟨_, _, _, Tryz.underlying44, rfl, rfl, Tryz.underlying4, rfl⟩⟩
instance : TFldV Tryz.prog 44 1 1 := ⟨⟨_, _, _, Tryz.underlying44, rfl, rfl, Tryz.underlying29, rfl⟩⟩
instance : TStruct Tryz.prog 44 [(0, 1), (1, 1)] [(.bool false), (.int .i64 0)] := ⟨let ⟨i, a, b, _, _⟩ := info_of inf44; ⟨i, _, _, a, b, rfl, Tryz.underlying44, by kernel_rfl⟩⟩
instance : TZeroC Tryz.prog 45 [(.bool false), (.int .i64 0)] := ⟨let ⟨i, a, b, _, _⟩ := info_of inf45; ⟨i, _, a, b, rfl⟩⟩
instance : TAgg Tryz.prog 45 2 := ⟨⟨_, Tryz.underlying45, rfl⟩, let ⟨i, a, _, c, _⟩ := info_of inf45; ⟨i, a, c⟩⟩
instance : TFld Tryz.prog 45 0 0 := ⟨let ⟨i, a, _, c, _⟩ := info_of inf4; ⟨_, _, i, Tryz.underlying45, rfl, rfl, a, by rw [c]; decide⟩⟩
instance : TFld Tryz.prog 45 1 1 := ⟨let ⟨i, a, _, c, _⟩ := info_of inf29; ⟨_, _, i, Tryz.underlying45, rfl, rfl, a, by rw [c]; decide⟩⟩
instance : TFldV Tryz.prog 45 0 0 := ⟨⟨_, _, _, Tryz.underlying45, rfl, rfl, Tryz.underlying4, rfl⟩⟩
instance : TFldV Tryz.prog 45 1 1 := ⟨⟨_, _, _, Tryz.underlying45, rfl, rfl, Tryz.underlying29, rfl⟩⟩
instance : TFlat Tryz.prog 45 [.bool, .int .i64] := ⟨⟨_, Tryz.underlying45, by kernel_rfl⟩, by kernel_rfl, by kernel_rfl⟩
instance : TStruct Tryz.prog 45 [(0, 1), (1, 1)] [(.bool false), (.int .i64 0)] := ⟨let ⟨i, a, b, _, _⟩ := info_of inf45; ⟨i, _, _, a, b, rfl, Tryz.underlying45, by kernel_rfl⟩⟩
instance : TZeroC Tryz.prog 46 [(.pointer none)] := ⟨let ⟨i, a, b, _, _⟩ := info_of inf46; ⟨i, _, a, b, rfl⟩⟩
instance : TCell Tryz.prog 46 := ⟨⟨_, Tryz.underlying46, rfl⟩, let ⟨i, a, _, c, _⟩ := info_of inf46; ⟨i, a, c⟩⟩
instance : TPtr Tryz.prog 46 := ⟨_, Tryz.underlying46⟩
instance : TZeroC Tryz.prog 47 [.nilFunc] := ⟨let ⟨i, a, b, _, _⟩ := info_of inf47; ⟨i, _, a, b, rfl⟩⟩
instance : TCell Tryz.prog 47 := ⟨⟨_, Tryz.underlying47, rfl⟩, let ⟨i, a, _, c, _⟩ := info_of inf47; ⟨i, a, c⟩⟩
instance : TZeroC Tryz.prog 48 [.nilFunc] := ⟨let ⟨i, a, b, _, _⟩ := info_of inf48; ⟨i, _, a, b, rfl⟩⟩
instance : TCell Tryz.prog 48 := ⟨⟨_, Tryz.underlying48, rfl⟩, let ⟨i, a, _, c, _⟩ := info_of inf48; ⟨i, a, c⟩⟩
instance : TZeroC Tryz.prog 49 [.nilFunc] := ⟨let ⟨i, a, b, _, _⟩ := info_of inf49; ⟨i, _, a, b, rfl⟩⟩
instance : TCell Tryz.prog 49 := ⟨⟨_, Tryz.underlying49, rfl⟩, let ⟨i, a, _, c, _⟩ := info_of inf49; ⟨i, a, c⟩⟩
instance : TZeroC Tryz.prog 50 [(.pointer none)] := ⟨let ⟨i, a, b, _, _⟩ := info_of inf50; ⟨i, _, a, b, rfl⟩⟩
instance : TCell Tryz.prog 50 := ⟨⟨_, Tryz.underlying50, rfl⟩, let ⟨i, a, _, c, _⟩ := info_of inf50; ⟨i, a, c⟩⟩
instance : TPtr Tryz.prog 50 := ⟨_, Tryz.underlying50⟩
instance : TZeroC Tryz.prog 51 [(.slice none 0 0)] := ⟨let ⟨i, a, b, _, _⟩ := info_of inf51; ⟨i, _, a, b, rfl⟩⟩
instance : TCell Tryz.prog 51 := ⟨⟨_, Tryz.underlying51, rfl⟩, let ⟨i, a, _, c, _⟩ := info_of inf51; ⟨i, a, c⟩⟩
instance : TSlice Tryz.prog 51 9 1 := ⟨let ⟨i, a, _, c, _⟩ := info_of inf9; ⟨i, Tryz.underlying51, a, c⟩⟩
instance : TElem Tryz.prog 51 9 1 16 [(.string ByteArray.empty)] := ⟨let ⟨i, a, b, c, d⟩ := info_of inf9; ⟨i, _, Tryz.underlying51, a, c, d, b, rfl, rfl⟩⟩
instance : TZeroC Tryz.prog 52 [(.slice none 0 0)] := ⟨let ⟨i, a, b, _, _⟩ := info_of inf52; ⟨i, _, a, b, rfl⟩⟩
instance : TAgg Tryz.prog 52 1 := ⟨⟨_, Tryz.underlying52, rfl⟩, let ⟨i, a, _, c, _⟩ := info_of inf52; ⟨i, a, c⟩⟩
instance : TFld Tryz.prog 52 0 0 := ⟨let ⟨i, a, _, c, _⟩ := info_of inf51; ⟨_, _, i, Tryz.underlying52, rfl, rfl, a, by rw [c]; decide⟩⟩
instance : TFldV Tryz.prog 52 0 0 := ⟨⟨_, _, _, Tryz.underlying52, rfl, rfl, Tryz.underlying51, rfl⟩⟩
instance : TStruct Tryz.prog 52 [(0, 1)] [(.slice none 0 0)] := ⟨let ⟨i, a, b, _, _⟩ := info_of inf52; ⟨i, _, _, a, b, rfl, Tryz.underlying52, by kernel_rfl⟩⟩
instance : TZeroC Tryz.prog 53 [(.slice none 0 0)] := ⟨let ⟨i, a, b, _, _⟩ := info_of inf53; ⟨i, _, a, b, rfl⟩⟩
instance : TAgg Tryz.prog 53 1 := ⟨⟨_, Tryz.underlying53, rfl⟩, let ⟨i, a, _, c, _⟩ := info_of inf53; ⟨i, a, c⟩⟩
instance : TFld Tryz.prog 53 0 0 := ⟨let ⟨i, a, _, c, _⟩ := info_of inf51; ⟨_, _, i, Tryz.underlying53, rfl, rfl, a, by rw [c]; decide⟩⟩
instance : TFldV Tryz.prog 53 0 0 := ⟨⟨_, _, _, Tryz.underlying53, rfl, rfl, Tryz.underlying51, rfl⟩⟩
instance : TStruct Tryz.prog 53 [(0, 1)] [(.slice none 0 0)] := ⟨let ⟨i, a, b, _, _⟩ := info_of inf53; ⟨i, _, _, a, b, rfl, Tryz.underlying53, by kernel_rfl⟩⟩
instance : TZeroC Tryz.prog 54 [(.slice none 0 0)] := ⟨let ⟨i, a, b, _, _⟩ := info_of inf54; ⟨i, _, a, b, rfl⟩⟩
instance : TCell Tryz.prog 54 := ⟨⟨_, Tryz.underlying54, rfl⟩, let ⟨i, a, _, c, _⟩ := info_of inf54; ⟨i, a, c⟩⟩
instance : TSlice Tryz.prog 54 75 2 := ⟨let ⟨i, a, _, c, _⟩ := info_of inf75; ⟨i, Tryz.underlying54, a, c⟩⟩
instance : TElem Tryz.prog 54 75 2 24 [(.string ByteArray.empty), (.int .i64 0)] := ⟨let ⟨i, a, b, c, d⟩ := info_of inf75; ⟨i, _, Tryz.underlying54, a, c, d, b, rfl, rfl⟩⟩
instance : TZeroC Tryz.prog 55 [(.slice none 0 0)] := ⟨let ⟨i, a, b, _, _⟩ := info_of inf55; ⟨i, _, a, b, rfl⟩⟩
instance : TCell Tryz.prog 55 := ⟨⟨_, Tryz.underlying55, rfl⟩, let ⟨i, a, _, c, _⟩ := info_of inf55; ⟨i, a, c⟩⟩
instance : TSlice Tryz.prog 55 79 2 := ⟨let ⟨i, a, _, c, _⟩ := info_of inf79; ⟨i, Tryz.underlying55, a, c⟩⟩
instance : TElem Tryz.prog 55 79 2 40 [(.string ByteArray.empty), (.slice none 0 0)] := ⟨let ⟨i, a, b, c, d⟩ := info_of inf79; ⟨i, _, Tryz.underlying55, a, c, d, b, rfl, rfl⟩⟩
instance : TZeroC Tryz.prog 56 [(.string ByteArray.empty), (.int .i64 0), (.int .i64 0), (.slice none 0 0), (.slice none 0 0)] := ⟨let ⟨i, a, b, _, _⟩ := info_of inf56; ⟨i, _, a, b, rfl⟩⟩
instance : TAgg Tryz.prog 56 5 := ⟨⟨_, Tryz.underlying56, rfl⟩, let ⟨i, a, _, c, _⟩ := info_of inf56; ⟨i, a, c⟩⟩
instance : TFld Tryz.prog 56 0 0 := ⟨let ⟨i, a, _, c, _⟩ := info_of inf9; ⟨_, _, i, Tryz.underlying56, rfl, rfl, a, by rw [c]; decide⟩⟩
instance : TFld Tryz.prog 56 1 1 := ⟨let ⟨i, a, _, c, _⟩ := info_of inf3; ⟨_, _, i, Tryz.underlying56, rfl, rfl, a, by rw [c]; decide⟩⟩
instance : TFld Tryz.prog 56 2 2 := ⟨let ⟨i, a, _, c, _⟩ := info_of inf3; ⟨_, _, i, Tryz.underlying56, rfl, rfl, a, by rw [c]; decide⟩⟩
instance : TFld Tryz.prog 56 3 3 := ⟨let ⟨i, a, _, c, _⟩ := info_of inf54; ⟨_, _, i, Tryz.underlying56, rfl, rfl, a, by rw [c]; decide⟩⟩
instance : TFld Tryz.prog 56 4 4 := ⟨let ⟨i, a, _, c, _⟩ := info_of inf55; ⟨_, _, i, Tryz.underlying56, rfl, rfl, a, by rw [c]; decide⟩⟩
instance : TFldV Tryz.prog 56 0 0 := ⟨⟨_, _, _, Tryz.underlying56, rfl, rfl, Tryz.underlying9, rfl⟩⟩
instance : TFldV Tryz.prog 56 1 1 := ⟨⟨_, _, _, Tryz.underlying56, rfl, rfl, Tryz.underlying3, rfl⟩⟩
instance : TFldV Tryz.prog 56 2 2 := ⟨⟨_, _, _, Tryz.underlying56, rfl, rfl, Tryz.underlying3, rfl⟩⟩
instance : TFldV Tryz.prog 56 3 3 := ⟨⟨_, _, _, Tryz.underlying56, rfl, rfl, Tryz.underlying54, rfl⟩⟩
instance : TFldV Tryz.prog 56 4 4 := ⟨⟨_, _, _, Tryz.underlying56, rfl, rfl, Tryz.underlying55, rfl⟩⟩
instance : TStruct Tryz.prog 56 [(0, 1), (1, 1), (2, 1), (3, 1), (4, 1)] [(.string ByteArray.empty), (.int .i64 0), (.int .i64 0), (.slice none 0 0), (.slice none 0 0)] := ⟨let ⟨i, a, b, _, _⟩ := info_of inf56; ⟨i, _, _, a, b, rfl, Tryz.underlying56, by kernel_rfl⟩⟩
instance : TZeroC Tryz.prog 57 [(.string ByteArray.empty), (.int .i64 0), (.int .i64 0), (.slice none 0 0), (.slice none 0 0)] := ⟨let ⟨i, a, b, _, _⟩ := info_of inf57; ⟨i, _, a, b, rfl⟩⟩
instance : TAgg Tryz.prog 57 5 := ⟨⟨_, Tryz.underlying57, rfl⟩, let ⟨i, a, _, c, _⟩ := info_of inf57; ⟨i, a, c⟩⟩
instance : TFld Tryz.prog 57 0 0 := ⟨let ⟨i, a, _, c, _⟩ := info_of inf9; ⟨_, _, i, Tryz.underlying57, rfl, rfl, a, by rw [c]; decide⟩⟩
instance : TFld Tryz.prog 57 1 1 := ⟨let ⟨i, a, _, c, _⟩ := info_of inf3; ⟨_, _, i, Tryz.underlying57, rfl, rfl, a, by rw [c]; decide⟩⟩
instance : TFld Tryz.prog 57 2 2 := ⟨let ⟨i, a, _, c, _⟩ := info_of inf3; ⟨_, _, i, Tryz.underlying57, rfl, rfl, a, by rw [c]; decide⟩⟩
instance : TFld Tryz.prog 57 3 3 := ⟨let ⟨i, a, _, c, _⟩ := info_of inf54; ⟨_, _, i, Tryz.underlying57, rfl, rfl, a, by rw [c]; decide⟩⟩
instance : TFld Tryz.prog 57 4 4 := ⟨let ⟨i, a, _, c, _⟩ := info_of inf55; ⟨_, _, i, Tryz.underlying57, rfl, rfl, a, by rw [c]; decide⟩⟩
instance : TFldV Tryz.prog 57 0 0 := ⟨⟨_, _, _, Tryz.underlying57, rfl, rfl, Tryz.underlying9, rfl⟩⟩
instance : TFldV Tryz.prog 57 1 1 := ⟨⟨_, _, _, Tryz.underlying57, rfl, rfl, Tryz.underlying3, rfl⟩⟩
instance : TFldV Tryz.prog 57 2 2 := ⟨⟨_, _, _, Tryz.underlying57, rfl, rfl, Tryz.underlying3, rfl⟩⟩
instance : TFldV Tryz.prog 57 3 3 := ⟨⟨_, _, _, Tryz.underlying57, rfl, rfl, Tryz.underlying54, rfl⟩⟩
instance : TFldV Tryz.prog 57 4 4 := ⟨⟨_, _, _, Tryz.underlying57, rfl, rfl, Tryz.underlying55, rfl⟩⟩
instance : TStruct Tryz.prog 57 [(0, 1), (1, 1), (2, 1), (3, 1), (4, 1)] [(.string ByteArray.empty), (.int .i64 0), (.int .i64 0), (.slice none 0 0), (.slice none 0 0)] := ⟨let ⟨i, a, b, _, _⟩ := info_of inf57; ⟨i, _, _, a, b, rfl, Tryz.underlying57, by kernel_rfl⟩⟩
instance : TZeroC Tryz.prog 58 [.nilFunc] := ⟨let ⟨i, a, b, _, _⟩ := info_of inf58; ⟨i, _, a, b, rfl⟩⟩
instance : TCell Tryz.prog 58 := ⟨⟨_, Tryz.underlying58, rfl⟩, let ⟨i, a, _, c, _⟩ := info_of inf58; ⟨i, a, c⟩⟩
instance : TZeroC Tryz.prog 59 [.nilFunc] := ⟨let ⟨i, a, b, _, _⟩ := info_of inf59; ⟨i, _, a, b, rfl⟩⟩
instance : TCell Tryz.prog 59 := ⟨⟨_, Tryz.underlying59, rfl⟩, let ⟨i, a, _, c, _⟩ := info_of inf59; ⟨i, a, c⟩⟩
instance : TZeroC Tryz.prog 60 [.nilFunc] := ⟨let ⟨i, a, b, _, _⟩ := info_of inf60; ⟨i, _, a, b, rfl⟩⟩
instance : TCell Tryz.prog 60 := ⟨⟨_, Tryz.underlying60, rfl⟩, let ⟨i, a, _, c, _⟩ := info_of inf60; ⟨i, a, c⟩⟩
instance : TZeroC Tryz.prog 61 [.nilFunc] := ⟨let ⟨i, a, b, _, _⟩ := info_of inf61; ⟨i, _, a, b, rfl⟩⟩
instance : TCell Tryz.prog 61 := ⟨⟨_, Tryz.underlying61, rfl⟩, let ⟨i, a, _, c, _⟩ := info_of inf61; ⟨i, a, c⟩⟩
instance : TZeroC Tryz.prog 62 [(.slice none 0 0)] := ⟨let ⟨i, a, b, _, _⟩ := info_of inf62; ⟨i, _, a, b, rfl⟩⟩
instance : TCell Tryz.prog 62 := ⟨⟨_, Tryz.underlying62, rfl⟩, let ⟨i, a, _, c, _⟩ := info_of inf62; ⟨i, a, c⟩⟩
instance : TSlice Tryz.prog 62 118 4 := ⟨let ⟨i, a, _, c, _⟩ := info_of inf118; ⟨i, Tryz.underlying62, a, c⟩⟩
instance : TElem Tryz.prog 62 118 4 40 [(.int .i64 0), (.string ByteArray.empty), (.int .i64 0), (.int .i64 0)] := ⟨let ⟨i, a, b, c, d⟩ := info_of inf118; ⟨i, _, Tryz.underlying62, a, c, d, b, rfl, rfl⟩⟩
instance : TZeroC Tryz.prog 64 [.nilFunc] := ⟨let ⟨i, a, b, _, _⟩ := info_of inf64; ⟨i, _, a, b, rfl⟩⟩
instance : TCell Tryz.prog 64 := ⟨⟨_, Tryz.underlying64, rfl⟩, let ⟨i, a, _, c, _⟩ := info_of inf64; ⟨i, a, c⟩⟩
instance : TZeroC Tryz.prog 65 [(.pointer none)] := ⟨let ⟨i, a, b, _, _⟩ := info_of inf65; ⟨i, _, a, b, rfl⟩⟩
instance : TCell Tryz.prog 65 := ⟨⟨_, Tryz.underlying65, rfl⟩, let ⟨i, a, _, c, _⟩ := info_of inf65; ⟨i, a, c⟩⟩
instance : TPtr Tryz.prog 65 := ⟨_, Tryz.underlying65⟩
instance : TZeroC Tryz.prog 67 [(.pointer none)] := ⟨let ⟨i, a, b, _, _⟩ := info_of inf67; ⟨i, _, a, b, rfl⟩⟩
instance : TCell Tryz.prog 67 := ⟨⟨_, Tryz.underlying67, rfl⟩, let ⟨i, a, _, c, _⟩ := info_of inf67; ⟨i, a, c⟩⟩
instance : TPtr Tryz.prog 67 := ⟨_, Tryz.underlying67⟩
instance : TZeroC Tryz.prog 68 [(.slice none 0 0), (.int .i64 0)] := ⟨let ⟨i, a, b, _, _⟩ := info_of inf68; ⟨i, _, a, b, rfl⟩⟩
instance : TAgg Tryz.prog 68 2 := ⟨⟨_, Tryz.underlying68, rfl⟩, let ⟨i, a, _, c, _⟩ := info_of inf68; ⟨i, a, c⟩⟩
instance : TFld Tryz.prog 68 0 0 := ⟨let ⟨i, a, _, c, _⟩ := info_of inf62; ⟨_, _, i, Tryz.underlying68, rfl, rfl, a, by rw [c]; decide⟩⟩
instance : TFld Tryz.prog 68 1 1 := ⟨let ⟨i, a, _, c, _⟩ := info_of inf3; ⟨_, _, i, Tryz.underlying68, rfl, rfl, a, by rw [c]; decide⟩⟩
instance : TFldV Tryz.prog 68 0 0 := ⟨⟨_, _, _, Tryz.underlying68, rfl, rfl, Tryz.underlying62, rfl⟩⟩
instance : TFldV Tryz.prog 68 1 1 := ⟨⟨_, _, _, Tryz.underlying68, rfl, rfl, Tryz.underlying3, rfl⟩⟩
instance : TStruct Tryz.prog 68 [(0, 1), (1, 1)] [(.slice none 0 0), (.int .i64 0)] := ⟨let ⟨i, a, b, _, _⟩ := info_of inf68; ⟨i, _, _, a, b, rfl, Tryz.underlying68, by kernel_rfl⟩⟩
instance : TZeroC Tryz.prog 69 [(.slice none 0 0), (.int .i64 0)] := ⟨let ⟨i, a, b, _, _⟩ := info_of inf69; ⟨i, _, a, b, rfl⟩⟩
instance : TAgg Tryz.prog 69 2 := ⟨⟨_, Tryz.underlying69, rfl⟩, let ⟨i, a, _, c, _⟩ := info_of inf69; ⟨i, a, c⟩⟩
instance : TFld Tryz.prog 69 0 0 := ⟨let ⟨i, a, _, c, _⟩ := info_of inf62; ⟨_, _, i, Tryz.underlying69, rfl, rfl, a, by rw [c]; decide⟩⟩
instance : TFld Tryz.prog 69 1 1 := ⟨let ⟨i, a, _, c, _⟩ := info_of inf3; ⟨_, _, i, Tryz.underlying69, rfl, rfl, a, by rw [c]; decide⟩⟩
instance : TFldV Tryz.prog 69 0 0 := ⟨⟨_, _, _, Tryz.underlying69, rfl, rfl, Tryz.underlying62, rfl⟩⟩
instance : TFldV Tryz.prog 69 1 1 := ⟨⟨_, _, _, Tryz.underlying69, rfl, rfl, Tryz.underlying3, rfl⟩⟩
instance : TStruct Tryz.prog 69 [(0, 1), (1, 1)] [(.slice none 0 0), (.int .i64 0)] := ⟨let ⟨i, a, b, _, _⟩ := info_of inf69; ⟨i, _, _, a, b, rfl, Tryz.underlying69, by kernel_rfl⟩⟩
instance : TZeroC Tryz.prog 70 [.nilFunc] := ⟨let ⟨i, a, b, _, _⟩ := info_of inf70; ⟨i, _, a, b, rfl⟩⟩
instance : TCell Tryz.prog 70 := ⟨⟨_, Tryz.underlying70, rfl⟩, let ⟨i, a, _, c, _⟩ := info_of inf70; ⟨i, a, c⟩⟩
instance : TZeroC Tryz.prog 71 [.nilFunc] := ⟨let ⟨i, a, b, _, _⟩ := info_of inf71; ⟨i, _, a, b, rfl⟩⟩
instance : TCell Tryz.prog 71 := ⟨⟨_, Tryz.underlying71, rfl⟩, let ⟨i, a, _, c, _⟩ := info_of inf71; ⟨i, a, c⟩⟩
instance : TZeroC Tryz.prog 72 [.nilFunc] := ⟨let ⟨i, a, b, _, _⟩ := info_of inf72; ⟨i, _, a, b, rfl⟩⟩
instance : TCell Tryz.prog 72 := ⟨⟨_, Tryz.underlying72, rfl⟩, let ⟨i, a, _, c, _⟩ := info_of inf72; ⟨i, a, c⟩⟩
instance : TZeroC Tryz.prog 73 [.nilFunc] := ⟨let ⟨i, a, b, _, _⟩ := info_of inf73; ⟨i, _, a, b, rfl⟩⟩
instance : TCell Tryz.prog 73 := ⟨⟨_, Tryz.underlying73, rfl⟩, let ⟨i, a, _, c, _⟩ := info_of inf73; ⟨i, a, c⟩⟩
instance : TZeroC Tryz.prog 74 [(.string ByteArray.empty), (.int .i64 0)] := ⟨let ⟨i, a, b, _, _⟩ := info_of inf74; ⟨i, _, a, b, rfl⟩⟩
instance : TAgg Tryz.prog 74 2 := ⟨⟨_, Tryz.underlying74, rfl⟩, let ⟨i, a, _, c, _⟩ := info_of inf74; ⟨i, a, c⟩⟩
instance : TFld Tryz.prog 74 0 0 := ⟨let ⟨i, a, _, c, _⟩ := info_of inf9; ⟨_, _, i, Tryz.underlying74, rfl, rfl, a, by rw [c]; decide⟩⟩
instance : TFld Tryz.prog 74 1 1 := ⟨let ⟨i, a, _, c, _⟩ := info_of inf3; ⟨_, _, i, Tryz.underlying74, rfl, rfl, a, by rw [c]; decide⟩⟩
instance : TFldV Tryz.prog 74 0 0 := ⟨⟨_, _, _, Tryz.underlying74, rfl, rfl, Tryz.underlying9, rfl⟩⟩
instance : TFldV Tryz.prog 74 1 1 := ⟨⟨_, _, _, Tryz.underlying74, rfl, rfl, Tryz.underlying3, rfl⟩⟩
instance : TStruct Tryz.prog 74 [(0, 1), (1, 1)] [(.string ByteArray.empty), (.int .i64 0)] := ⟨let ⟨i, a, b, _, _⟩ := info_of inf74; ⟨i, _, _, a, b, rfl, Tryz.underlying74, by kernel_rfl⟩⟩
instance : TZeroC Tryz.prog 75 [(.string ByteArray.empty), (.int .i64 0)] := ⟨let ⟨i, a, b, _, _⟩ := info_of inf75; ⟨i, _, a, b, rfl⟩⟩
instance : TAgg Tryz.prog 75 2 := ⟨⟨_, Tryz.underlying75, rfl⟩, let ⟨i, a, _, c, _⟩ := info_of inf75; ⟨i, a, c⟩⟩
instance : TFld Tryz.prog 75 0 0 := ⟨let ⟨i, a, _, c, _⟩ := info_of inf9; ⟨_, _, i, Tryz.underlying75, rfl, rfl, a, by rw [c]; decide⟩⟩
instance : TFld Tryz.prog 75 1 1 := ⟨let ⟨i, a, _, c, _⟩ := info_of inf3; ⟨_, _, i, Tryz.underlying75, rfl, rfl, a, by rw [c]; decide⟩⟩
instance : TFldV Tryz.prog 75 0 0 := ⟨⟨_, _, _, Tryz.underlying75, rfl, rfl, Tryz.underlying9, rfl⟩⟩
instance : TFldV Tryz.prog 75 1 1 := ⟨⟨_, _, _, Tryz.underlying75, rfl, rfl, Tryz.underlying3, rfl⟩⟩
instance : TFlat Tryz.prog 75 [.str, .int .i64] := ⟨⟨_, Tryz.underlying75, by kernel_rfl⟩, by kernel_rfl, by kernel_rfl⟩
instance : TStruct Tryz.prog 75 [(0, 1), (1, 1)] [(.string ByteArray.empty), (.int .i64 0)] := ⟨let ⟨i, a, b, _, _⟩ := info_of inf75; ⟨i, _, _, a, b, rfl, Tryz.underlying75, by kernel_rfl⟩⟩
instance : TZeroC Tryz.prog 76 [.nilFunc] := ⟨let ⟨i, a, b, _, _⟩ := info_of inf76; ⟨i, _, a, b, rfl⟩⟩
instance : TCell Tryz.prog 76 := ⟨⟨_, Tryz.underlying76, rfl⟩, let ⟨i, a, _, c, _⟩ := info_of inf76; ⟨i, a, c⟩⟩
instance : TZeroC Tryz.prog 77 [(.slice none 0 0)] := ⟨let ⟨i, a, b, _, _⟩ := info_of inf77; ⟨i, _, a, b, rfl⟩⟩
instance : TCell Tryz.prog 77 := ⟨⟨_, Tryz.underlying77, rfl⟩, let ⟨i, a, _, c, _⟩ := info_of inf77; ⟨i, a, c⟩⟩
instance : TSlice Tryz.prog 77 83 4 := ⟨let ⟨i, a, _, c, _⟩ := info_of inf83; ⟨i, Tryz.underlying77, a, c⟩⟩
instance : TElem Tryz.prog 77 83 4 56 [(.string ByteArray.empty), (.bool false), (.int .i64 0), (.slice none 0 0)] := ⟨let ⟨i, a, b, c, d⟩ := info_of inf83; ⟨i, _, Tryz.underlying77, a, c, d, b, rfl, rfl⟩⟩
instance : TZeroC Tryz.prog 78 [(.string ByteArray.empty), (.slice none 0 0)] := ⟨let ⟨i, a, b, _, _⟩ := info_of inf78; ⟨i, _, a, b, rfl⟩⟩
instance : TAgg Tryz.prog 78 2 := ⟨⟨_, Tryz.underlying78, rfl⟩, let ⟨i, a, _, c, _⟩ := info_of inf78; ⟨i, a, c⟩⟩
instance : TFld Tryz.prog 78 0 0 := ⟨let ⟨i, a, _, c, _⟩ := info_of inf9; ⟨_, _, i, Tryz.underlying78, rfl, rfl, a, by rw [c]; decide⟩⟩
instance : TFld Tryz.prog 78 1 1 := ⟨let ⟨i, a, _, c, _⟩ := info_of inf77; ⟨_, _, i, Tryz.underlying78, rfl, rfl, a, by rw [c]; decide⟩⟩
instance : TFldV Tryz.prog 78 0 0 := ⟨⟨_, _, _, Tryz.underlying78, rfl, rfl, Tryz.underlying9, rfl⟩⟩
instance : TFldV Tryz.prog 78 1 1 := ⟨⟨_, _, _, Tryz.underlying78, rfl, rfl, Tryz.underlying77, rfl⟩⟩
instance : TStruct Tryz.prog 78 [(0, 1), (1, 1)] [(.string ByteArray.empty), (.slice none 0 0)] := ⟨let ⟨i, a, b, _, _⟩ := info_of inf78; ⟨i, _, _, a, b, rfl, Tryz.underlying78, by kernel_rfl⟩⟩
instance : TZeroC Tryz.prog 79 [(.string ByteArray.empty), (.slice none 0 0)] := ⟨let ⟨i, a, b, _, _⟩ := info_of inf79; ⟨i, _, a, b, rfl⟩⟩
instance : TAgg Tryz.prog 79 2 := ⟨⟨_, Tryz.underlying79, rfl⟩, let ⟨i, a, _, c, _⟩ := info_of inf79; ⟨i, a, c⟩⟩
instance : TFld Tryz.prog 79 0 0 := ⟨let ⟨i, a, _, c, _⟩ := info_of inf9; ⟨_, _, i, Tryz.underlying79, rfl, rfl, a, by rw [c]; decide⟩⟩
instance : TFld Tryz.prog 79 1 1 := ⟨let ⟨i, a, _, c, _⟩ := info_of inf77; ⟨_, _, i, Tryz.underlying79, rfl, rfl, a, by rw [c]; decide⟩⟩
instance : TFldV Tryz.prog 79 0 0 := ⟨⟨_, _, _, Tryz.underlying79, rfl, rfl, Tryz.underlying9, rfl⟩⟩
instance : TFldV Tryz.prog 79 1 1 := ⟨⟨_, _, _, Tryz.underlying79, rfl, rfl, Tryz.underlying77, rfl⟩⟩
instance : TStruct Tryz.prog 79 [(0, 1), (1, 1)] [(.string ByteArray.empty), (.slice none 0 0)] := ⟨let ⟨i, a, b, _, _⟩ := info_of inf79; ⟨i, _, _, a, b, rfl, Tryz.underlying79, by kernel_rfl⟩⟩
instance : TZeroC Tryz.prog 80 [.nilFunc] := ⟨let ⟨i, a, b, _, _⟩ := info_of inf80; ⟨i, _, a, b, rfl⟩⟩
instance : TCell Tryz.prog 80 := ⟨⟨_, Tryz.underlying80, rfl⟩, let ⟨i, a, _, c, _⟩ := info_of inf80; ⟨i, a, c⟩⟩
instance : TZeroC Tryz.prog 81 [(.slice none 0 0)] := ⟨let ⟨i, a, b, _, _⟩ := info_of inf81; ⟨i, _, a, b, rfl⟩⟩
instance : TCell Tryz.prog 81 := ⟨⟨_, Tryz.underlying81, rfl⟩, let ⟨i, a, _, c, _⟩ := info_of inf81; ⟨i, a, c⟩⟩
instance : TSlice Tryz.prog 81 38 7 := ⟨let ⟨i, a, _, c, _⟩ := info_of inf38; ⟨i, Tryz.underlying81, a, c⟩⟩
instance : TElem Tryz.prog 81 38 7 80 [(.int .i64 0), (.string ByteArray.empty), (.string ByteArray.empty), (.string ByteArray.empty), (.int .i64 0), (.int .i64 0), (.int .i64 0)] := ⟨let ⟨i, a, b, c, d⟩ := info_of inf38; ⟨i, _, Tryz.underlying81, a, c, d, b, rfl, rfl⟩⟩
instance : TZeroC Tryz.prog 82 [(.string ByteArray.empty), (.bool false), (.int .i64 0), (.slice none 0 0)] := ⟨let ⟨i, a, b, _, _⟩ := info_of inf82; ⟨i, _, a, b, rfl⟩⟩
instance : TAgg Tryz.prog 82 4 := ⟨⟨_, Tryz.underlying82, rfl⟩, let ⟨i, a, _, c, _⟩ := info_of inf82; ⟨i, a, c⟩⟩
instance : TFld Tryz.prog 82 0 0 := ⟨let ⟨i, a, _, c, _⟩ := info_of inf9; ⟨_, _, i, Tryz.underlying82, rfl, rfl, a, by rw [c]; decide⟩⟩
instance : TFld Tryz.prog 82 1 1 := ⟨let ⟨i, a, _, c, _⟩ := info_of inf4; ⟨_, _, i, Tryz.underlying82, rfl, rfl, a, by rw [c]; decide⟩⟩
instance : TFld Tryz.prog 82 2 2 := ⟨let ⟨i, a, _, c, _⟩ := info_of inf3; ⟨_, _, i, Tryz.underlying82, rfl, rfl, a, by rw [c]; decide⟩⟩
instance : TFld Tryz.prog 82 3 3 := ⟨let ⟨i, a, _, c, _⟩ := info_of inf81; ⟨_, _, i, Tryz.underlying82, rfl, rfl, a, by rw [c]; decide⟩⟩
instance : TFldV Tryz.prog 82 0 0 := ⟨⟨_, _, _, Tryz.underlying82, rfl, rfl, Tryz.underlying9, rfl⟩⟩
instance : TFldV Tryz.prog 82 1 1 := ⟨⟨_, _, _, Tryz.underlying82, rfl, rfl, Tryz.underlying4, rfl⟩⟩
instance : TFldV Tryz.prog 82 2 2 := ⟨⟨_, _, _, Tryz.underlying82, rfl, rfl, Tryz.underlying3, rfl⟩⟩
instance : TFldV Tryz.prog 82 3 3 := ⟨⟨_, _, _, Tryz.underlying82, rfl, rfl, Tryz.underlying81, rfl⟩⟩
instance : TStruct Tryz.prog 82 [(0, 1), (1, 1), (2, 1), (3, 1)] [(.string ByteArray.empty), (.bool false), (.int .i64 0), (.slice none 0 0)] := ⟨let ⟨i, a, b, _, _⟩ := info_of inf82; ⟨i, _, _, a, b, rfl, Tryz.underlying82, by kernel_rfl⟩⟩
instance : TZeroC Tryz.prog 83 [(.string ByteArray.empty), (.bool false), (.int .i64 0), (.slice none 0 0)] := ⟨let ⟨i, a, b, _, _⟩ := info_of inf83; ⟨i, _, a, b, rfl⟩⟩
instance : TAgg Tryz.prog 83 4 := ⟨⟨_, Tryz.underlying83, rfl⟩, let ⟨i, a, _, c, _⟩ := info_of inf83; ⟨i, a, c⟩⟩
instance : TFld Tryz.prog 83 0 0 := ⟨let ⟨i, a, _, c, _⟩ := info_of inf9; ⟨_, _, i, Tryz.underlying83, rfl, rfl, a, by rw [c]; decide⟩⟩
instance : TFld Tryz.prog 83 1 1 := ⟨let ⟨i, a, _, c, _⟩ := info_of inf4; ⟨_, _, i, Tryz.underlying83, rfl, rfl, a, by rw [c]; decide⟩⟩
instance : TFld Tryz.prog 83 2 2 := ⟨let ⟨i, a, _, c, _⟩ := info_of inf3; ⟨_, _, i, Tryz.underlying83, rfl, rfl, a, by rw [c]; decide⟩⟩
instance : TFld Tryz.prog 83 3 3 := ⟨let ⟨i, a, _, c, _⟩ := info_of inf81; ⟨_, _, i, Tryz.underlying83, rfl, rfl, a, by rw [c]; decide⟩⟩
instance : TFldV Tryz.prog 83 0 0 := ⟨⟨_, _, _, Tryz.underlying83, rfl, rfl, Tryz.underlying9, rfl⟩⟩
instance : TFldV Tryz.prog 83 1 1 := ⟨⟨_, _, _, Tryz.underlying83, rfl, rfl, Tryz.underlying4, rfl⟩⟩
instance : TFldV Tryz.prog 83 2 2 := ⟨⟨_, _, _, Tryz.underlying83, rfl, rfl, Tryz.underlying3, rfl⟩⟩
instance : TFldV Tryz.prog 83 3 3 := ⟨⟨_, _, _, Tryz.underlying83, rfl, rfl, Tryz.underlying81, rfl⟩⟩
instance : TStruct Tryz.prog 83 [(0, 1), (1, 1), (2, 1), (3, 1)] [(.string ByteArray.empty), (.bool false), (.int .i64 0), (.slice none 0 0)] := ⟨let ⟨i, a, b, _, _⟩ := info_of inf83; ⟨i, _, _, a, b, rfl, Tryz.underlying83, by kernel_rfl⟩⟩
instance : TZeroC Tryz.prog 84 [.nilFunc] := ⟨let ⟨i, a, b, _, _⟩ := info_of inf84; ⟨i, _, a, b, rfl⟩⟩
instance : TCell Tryz.prog 84 := ⟨⟨_, Tryz.underlying84, rfl⟩, let ⟨i, a, _, c, _⟩ := info_of inf84; ⟨i, a, c⟩⟩
instance : TZeroC Tryz.prog 85 [.nilFunc] := ⟨let ⟨i, a, b, _, _⟩ := info_of inf85; ⟨i, _, a, b, rfl⟩⟩
instance : TCell Tryz.prog 85 := ⟨⟨_, Tryz.underlying85, rfl⟩, let ⟨i, a, _, c, _⟩ := info_of inf85; ⟨i, a, c⟩⟩
instance : TZeroC Tryz.prog 86 [.nilFunc] := ⟨let ⟨i, a, b, _, _⟩ := info_of inf86; ⟨i, _, a, b, rfl⟩⟩
instance : TCell Tryz.prog 86 := ⟨⟨_, Tryz.underlying86, rfl⟩, let ⟨i, a, _, c, _⟩ := info_of inf86; ⟨i, a, c⟩⟩
instance : TZeroC Tryz.prog 87 [.nilFunc] := ⟨let ⟨i, a, b, _, _⟩ := info_of inf87; ⟨i, _, a, b, rfl⟩⟩
instance : TCell Tryz.prog 87 := ⟨⟨_, Tryz.underlying87, rfl⟩, let ⟨i, a, _, c, _⟩ := info_of inf87; ⟨i, a, c⟩⟩
instance : TZeroC Tryz.prog 88 [.nilFunc] := ⟨let ⟨i, a, b, _, _⟩ := info_of inf88; ⟨i, _, a, b, rfl⟩⟩
instance : TCell Tryz.prog 88 := ⟨⟨_, Tryz.underlying88, rfl⟩, let ⟨i, a, _, c, _⟩ := info_of inf88; ⟨i, a, c⟩⟩
instance : TZeroC Tryz.prog 89 [(.pointer none)] := ⟨let ⟨i, a, b, _, _⟩ := info_of inf89; ⟨i, _, a, b, rfl⟩⟩
instance : TCell Tryz.prog 89 := ⟨⟨_, Tryz.underlying89, rfl⟩, let ⟨i, a, _, c, _⟩ := info_of inf89; ⟨i, a, c⟩⟩
instance : TPtr Tryz.prog 89 := ⟨_, Tryz.underlying89⟩
instance : TZeroC Tryz.prog 90 [(.int .i64 0), (.slice none 0 0)] := ⟨let ⟨i, a, b, _, _⟩ := info_of inf90; ⟨i, _, a, b, rfl⟩⟩
instance : TAgg Tryz.prog 90 2 := ⟨⟨_, Tryz.underlying90, rfl⟩, let ⟨i, a, _, c, _⟩ := info_of inf90; ⟨i, a, c⟩⟩
instance : TFld Tryz.prog 90 0 0 := ⟨let ⟨i, a, _, c, _⟩ := info_of inf29; ⟨_, _, i, Tryz.underlying90, rfl, rfl, a, by rw [c]; decide⟩⟩
instance : TFld Tryz.prog 90 1 1 := ⟨let ⟨i, a, _, c, _⟩ := info_of inf40; ⟨_, _, i, Tryz.underlying90, rfl, rfl, a, by rw [c]; decide⟩⟩
instance : TFldV Tryz.prog 90 0 0 := ⟨⟨_, _, _, Tryz.underlying90, rfl, rfl, Tryz.underlying29, rfl⟩⟩
instance : TFldV Tryz.prog 90 1 1 := ⟨⟨_, _, _, Tryz.underlying90, rfl, rfl, Tryz.underlying40, rfl⟩⟩
instance : TStruct Tryz.prog 90 [(0, 1), (1, 1)] [(.int .i64 0), (.slice none 0 0)] := ⟨let ⟨i, a, b, _, _⟩ := info_of inf90; ⟨i, _, _, a, b, rfl, Tryz.underlying90, by kernel_rfl⟩⟩
instance : TZeroC Tryz.prog 91 [(.int .i64 0), (.slice none 0 0)] := ⟨let ⟨i, a, b, _, _⟩ := info_of inf91; ⟨i, _, a, b, rfl⟩⟩
instance : TAgg Tryz.prog 91 2 := ⟨⟨_, Tryz.underlying91, rfl⟩, let ⟨i, a, _, c, _⟩ := info_of inf91; ⟨i, a, c⟩⟩
instance : TFld Tryz.prog 91 0 0 := ⟨let ⟨i, a, _, c, _⟩ := info_of inf29; ⟨_, _, i, Tryz.underlying91, rfl, rfl, a, by rw [c]; decide⟩⟩
instance : TFld Tryz.prog 91 1 1 := ⟨let ⟨i, a, _, c, _⟩ := info_of inf40; ⟨_, _, i, Tryz.underlying91, rfl, rfl, a, by rw [c]; decide⟩⟩
instance : TFldV Tryz.prog 91 0 0 := ⟨⟨_, _, _, Tryz.underlying91, rfl, rfl, Tryz.underlying29, rfl⟩⟩
instance : TFldV Tryz.prog 91 1 1 := ⟨⟨_, _, _, Tryz.underlying91, rfl, rfl, Tryz.underlying40, rfl⟩⟩
instance : TStruct Tryz.prog 91 [(0, 1), (1, 1)] [(.int .i64 0), (.slice none 0 0)] := ⟨let ⟨i, a, b, _, _⟩ := info_of inf91; ⟨i, _, _, a, b, rfl, Tryz.underlying91, by kernel_rfl⟩⟩
instance : TZeroC Tryz.prog 92 [.nilFunc] := ⟨let ⟨i, a, b, _, _⟩ := info_of inf92; ⟨i, _, a, b, rfl⟩⟩
instance : TCell Tryz.prog 92 := ⟨⟨_, Tryz.underlying92, rfl⟩, let ⟨i, a, _, c, _⟩ := info_of inf92; ⟨i, a, c⟩⟩
instance : TZeroC Tryz.prog 93 [(.slice none 0 0)] := ⟨let ⟨i, a, b, _, _⟩ := info_of inf93; ⟨i, _, a, b, rfl⟩⟩
instance : TCell Tryz.prog 93 := ⟨⟨_, Tryz.underlying93, rfl⟩, let ⟨i, a, _, c, _⟩ := info_of inf93; ⟨i, a, c⟩⟩
instance : TSlice Tryz.prog 93 45 2 := ⟨let ⟨i, a, _, c, _⟩ := info_of inf45; ⟨i, Tryz.underlying93, a, c⟩⟩
instance : TElem Tryz.prog 93 45 2 16 [(.bool false), (.int .i64 0)] := ⟨let ⟨i, a, b, c, d⟩ := info_of inf45; ⟨i, _, Tryz.underlying93, a, c, d, b, rfl, rfl⟩⟩
instance : TZeroC Tryz.prog 94 [.nilFunc] := ⟨let ⟨i, a, b, _, _⟩ := info_of inf94; ⟨i, _, a, b, rfl⟩⟩
instance : TCell Tryz.prog 94 := ⟨⟨_, Tryz.underlying94, rfl⟩, let ⟨i, a, _, c, _⟩ := info_of inf94; ⟨i, a, c⟩⟩
instance : TZeroC Tryz.prog 95 [.nilFunc] := ⟨let ⟨i, a, b, _, _⟩ := info_of inf95; ⟨i, _, a, b, rfl⟩⟩
instance : TCell Tryz.prog 95 := ⟨⟨_, Tryz.underlying95, rfl⟩, let ⟨i, a, _, c, _⟩ := info_of inf95; ⟨i, a, c⟩⟩
instance : TZeroC Tryz.prog 96 [.nilFunc] := ⟨let ⟨i, a, b, _, _⟩ := info_of inf96; ⟨i, _, a, b, rfl⟩⟩
instance : TCell Tryz.prog 96 := ⟨⟨_, Tryz.underlying96, rfl⟩, let ⟨i, a, _, c, _⟩ := info_of inf96; ⟨i, a, c⟩⟩
instance : TZeroC Tryz.prog 97 [.nilFunc] := ⟨let ⟨i, a, b, _, _⟩ := info_of inf97; ⟨i, _, a, b, rfl⟩⟩
instance : TCell Tryz.prog 97 := ⟨⟨_, Tryz.underlying97, rfl⟩, let ⟨i, a, _, c, _⟩ := info_of inf97; ⟨i, a, c⟩⟩
instance : TZeroC Tryz.prog 98 [.nilFunc] := ⟨let ⟨i, a, b, _, _⟩ := info_of inf98; ⟨i, _, a, b, rfl⟩⟩
instance : TCell Tryz.prog 98 := ⟨⟨_, Tryz.underlying98, rfl⟩, let ⟨i, a, _, c, _⟩ := info_of inf98; ⟨i, a, c⟩⟩
instance : TZeroC Tryz.prog 99 [.nilFunc] := ⟨let ⟨i, a, b, _, _⟩ := info_of inf99; ⟨i, _, a, b, rfl⟩⟩
instance : TCell Tryz.prog 99 := ⟨⟨_, Tryz.underlying99, rfl⟩, let ⟨i, a, _, c, _⟩ := info_of inf99; ⟨i, a, c⟩⟩
instance : TZeroC Tryz.prog 100 [.nilFunc] := ⟨let ⟨i, a, b, _, _⟩ := info_of inf100; ⟨i, _, a, b, rfl⟩⟩
instance : TCell Tryz.prog 100 := ⟨⟨_, Tryz.underlying100, rfl⟩, let ⟨i, a, _, c, _⟩ := info_of inf100; ⟨i, a, c⟩⟩
instance : TZeroC Tryz.prog 101 [.nilFunc] := ⟨let ⟨i, a, b, _, _⟩ := info_of inf101; ⟨i, _, a, b, rfl⟩⟩
instance : TCell Tryz.prog 101 := ⟨⟨_, Tryz.underlying101, rfl⟩, let ⟨i, a, _, c, _⟩ := info_of inf101; ⟨i, a, c⟩⟩
instance : TZeroC Tryz.prog 102 [(.pointer none)] := ⟨let ⟨i, a, b, _, _⟩ := info_of inf102; ⟨i, _, a, b, rfl⟩⟩
instance : TCell Tryz.prog 102 := ⟨⟨_, Tryz.underlying102, rfl⟩, let ⟨i, a, _, c, _⟩ := info_of inf102; ⟨i, a, c⟩⟩
instance : TPtr Tryz.prog 102 := ⟨_, Tryz.underlying102⟩
instance : TZeroC Tryz.prog 103 [(.slice none 0 0)] := ⟨let ⟨i, a, b, _, _⟩ := info_of inf103; ⟨i, _, a, b, rfl⟩⟩
instance : TCell Tryz.prog 103 := ⟨⟨_, Tryz.underlying103, rfl⟩, let ⟨i, a, _, c, _⟩ := info_of inf103; ⟨i, a, c⟩⟩
instance : TSlice Tryz.prog 103 5 1 := ⟨let ⟨i, a, _, c, _⟩ := info_of inf5; ⟨i, Tryz.underlying103, a, c⟩⟩
instance : TElem Tryz.prog 103 5 1 1 [(.int .u8 0)] := ⟨let ⟨i, a, b, c, d⟩ := info_of inf5; ⟨i, _, Tryz.underlying103, a, c, d, b, rfl, rfl⟩⟩
instance : TZeroC Tryz.prog 104 [(.pointer none), (.slice none 0 0)] := ⟨let ⟨i, a, b, _, _⟩ := info_of inf104; ⟨i, _, a, b, rfl⟩⟩
instance : TAgg Tryz.prog 104 2 := ⟨⟨_, Tryz.underlying104, rfl⟩, let ⟨i, a, _, c, _⟩ := info_of inf104; ⟨i, a, c⟩⟩
instance : TFld Tryz.prog 104 0 0 := ⟨let ⟨i, a, _, c, _⟩ := info_of inf102; ⟨_, _, i, Tryz.underlying104, rfl, rfl, a, by rw [c]; decide⟩⟩
instance : TFld Tryz.prog 104 1 1 := ⟨let ⟨i, a, _, c, _⟩ := info_of inf103; ⟨_, _, i, Tryz.underlying104, rfl, rfl, a, by rw [c]; decide⟩⟩
instance : TFldV Tryz.prog 104 0 0 := ⟨⟨_, _, _, Tryz.underlying104, rfl, rfl, Tryz.underlying102, rfl⟩⟩
instance : TFldV Tryz.prog 104 1 1 := ⟨⟨_, _, _, Tryz.underlying104, rfl, rfl, Tryz.underlying103, rfl⟩⟩
instance : TStruct Tryz.prog 104 [(0, 1), (1, 1)] [(.pointer none), (.slice none 0 0)] := ⟨let ⟨i, a, b, _, _⟩ := info_of inf104; ⟨i, _, _, a, b, rfl, Tryz.underlying104, by kernel_rfl⟩⟩
instance : TZeroC Tryz.prog 105 [(.pointer none), (.slice none 0 0)] := ⟨let ⟨i, a, b, _, _⟩ := info_of inf105; ⟨i, _, a, b, rfl⟩⟩
instance : TAgg Tryz.prog 105 2 := ⟨⟨_, Tryz.underlying105, rfl⟩, let ⟨i, a, _, c, _⟩ := info_of inf105; ⟨i, a, c⟩⟩
instance : TFld Tryz.prog 105 0 0 := ⟨let ⟨i, a, _, c, _⟩ := info_of inf102; ⟨_, _, i, Tryz.underlying105, rfl, rfl, a, by rw [c]; decide⟩⟩
instance : TFld Tryz.prog 105 1 1 := ⟨let ⟨i, a, _, c, _⟩ := info_of inf103; ⟨_, _, i, Tryz.underlying105, rfl, rfl, a, by rw [c]; decide⟩⟩
instance : TFldV Tryz.prog 105 0 0 := ⟨⟨_, _, _, Tryz.underlying105, rfl, rfl, Tryz.underlying102, rfl⟩⟩
instance : TFldV Tryz.prog 105 1 1 := ⟨⟨_, _, _, Tryz.underlying105, rfl, rfl, Tryz.underlying103, rfl⟩⟩
instance : TStruct Tryz.prog 105 [(0, 1), (1, 1)] [(.pointer none), (.slice none 0 0)] := ⟨let ⟨i, a, b, _, _⟩ := info_of inf105; ⟨i, _, _, a, b, rfl, Tryz.underlying105, by kernel_rfl⟩⟩
instance : TZeroC Tryz.prog 106 [.nilFunc] := ⟨let ⟨i, a, b, _, _⟩ := info_of inf106; ⟨i, _, a, b, rfl⟩⟩
instance : TCell Tryz.prog 106 := ⟨⟨_, Tryz.underlying106, rfl⟩, let ⟨i, a, _, c, _⟩ := info_of inf106; ⟨i, a, c⟩⟩
instance : TZeroC Tryz.prog 108 [.nilFunc] := ⟨let ⟨i, a, b, _, _⟩ := info_of inf108; ⟨i, _, a, b, rfl⟩⟩
instance : TCell Tryz.prog 108 := ⟨⟨_, Tryz.underlying108, rfl⟩, let ⟨i, a, _, c, _⟩ := info_of inf108; ⟨i, a, c⟩⟩
instance : TZeroC Tryz.prog 109 [.nilFunc] := ⟨let ⟨i, a, b, _, _⟩ := info_of inf109; ⟨i, _, a, b, rfl⟩⟩
instance : TCell Tryz.prog 109 := ⟨⟨_, Tryz.underlying109, rfl⟩, let ⟨i, a, _, c, _⟩ := info_of inf109; ⟨i, a, c⟩⟩
instance : TZeroC Tryz.prog 110 [.nilIface] := ⟨let ⟨i, a, b, _, _⟩ := info_of inf110; ⟨i, _, a, b, rfl⟩⟩
instance : TCell Tryz.prog 110 := ⟨⟨_, Tryz.underlying110, rfl⟩, let ⟨i, a, _, c, _⟩ := info_of inf110; ⟨i, a, c⟩⟩
instance : TIfc Tryz.prog 110 := ⟨_, Tryz.underlying110⟩
instance : TZeroC Tryz.prog 111 [.nilIface] := ⟨let ⟨i, a, b, _, _⟩ := info_of inf111; ⟨i, _, a, b, rfl⟩⟩
instance : TCell Tryz.prog 111 := ⟨⟨_, Tryz.underlying111, rfl⟩, let ⟨i, a, _, c, _⟩ := info_of inf111; ⟨i, a, c⟩⟩
instance : TIfc Tryz.prog 111 := ⟨_, Tryz.underlying111⟩
instance : TZeroC Tryz.prog 112 [.nilFunc] := ⟨let ⟨i, a, b, _, _⟩ := info_of inf112; ⟨i, _, a, b, rfl⟩⟩
instance : TCell Tryz.prog 112 := ⟨⟨_, Tryz.underlying112, rfl⟩, let ⟨i, a, _, c, _⟩ := info_of inf112; ⟨i, a, c⟩⟩
instance : TZeroC Tryz.prog 113 [.nilFunc] := ⟨let ⟨i, a, b, _, _⟩ := info_of inf113; ⟨i, _, a, b, rfl⟩⟩
instance : TCell Tryz.prog 113 := ⟨⟨_, Tryz.underlying113, rfl⟩, let ⟨i, a, _, c, _⟩ := info_of inf113; ⟨i, a, c⟩⟩
instance : TZeroC Tryz.prog 114 [(.int .i64 0), (.int .i64 0)] := ⟨let ⟨i, a, b, _, _⟩ := info_of inf114; ⟨i, _, a, b, rfl⟩⟩
instance : TAgg Tryz.prog 114 2 := ⟨⟨_, Tryz.underlying114, rfl⟩, let ⟨i, a, _, c, _⟩ := info_of inf114; ⟨i, a, c⟩⟩
instance : TFld Tryz.prog 114 0 0 := ⟨let ⟨i, a, _, c, _⟩ := info_of inf29; ⟨_, _, i, Tryz.underlying114, rfl, rfl, a, by rw [c]; decide⟩⟩
instance : TFld Tryz.prog 114 1 1 := ⟨let ⟨i, a, _, c, _⟩ := info_of inf3; ⟨_, _, i, Tryz.underlying114, rfl, rfl, a, by rw [c]; decide⟩⟩
instance : TFldV Tryz.prog 114 0 0 := ⟨⟨_, _, _, Tryz.underlying114, rfl, rfl, Tryz.underlying29, rfl⟩⟩
instance : TFldV Tryz.prog 114 1 1 := ⟨⟨_, _, _, Tryz.underlying114, rfl, rfl, Tryz.underlying3, rfl⟩⟩
instance : TStruct Tryz.prog 114 [(0, 1), (1, 1)] [(.int .i64 0), (.int .i64 0)] := ⟨let ⟨i, a, b, _, _⟩ := info_of inf114; ⟨i, _, _, a, b, rfl, Tryz.underlying114, by kernel_rfl⟩⟩
instance : TZeroC Tryz.prog 115 [(.int .i64 0), (.int .i64 0)] := ⟨let ⟨i, a, b, _, _⟩ := info_of inf115; ⟨i, _, a, b, rfl⟩⟩
instance : TAgg Tryz.prog 115 2 := ⟨⟨_, Tryz.underlying115, rfl⟩, let ⟨i, a, _, c, _⟩ := info_of inf115; ⟨i, a, c⟩⟩
instance : TFld Tryz.prog 115 0 0 := ⟨let ⟨i, a, _, c, _⟩ := info_of inf29; ⟨_, _, i, Tryz.underlying115, rfl, rfl, a, by rw [c]; decide⟩⟩
instance : TFld Tryz.prog 115 1 1 := ⟨let ⟨i, a, _, c, _⟩ := info_of inf3; ⟨_, _, i, Tryz.underlying115, rfl, rfl, a, by rw [c]; decide⟩⟩
instance : TFldV Tryz.prog 115 0 0 := ⟨⟨_, _, _, Tryz.underlying115, rfl, rfl, Tryz.underlying29, rfl⟩⟩
instance : TFldV Tryz.prog 115 1 1 := ⟨⟨_, _, _, Tryz.underlying115, rfl, rfl, Tryz.underlying3, rfl⟩⟩
instance : TFlat Tryz.prog 115 [.int .i64, .int .i64] := ⟨⟨_, Tryz.underlying115, by kernel_rfl⟩, by kernel_rfl, by kernel_rfl⟩
instance : TStruct Tryz.prog 115 [(0, 1), (1, 1)] [(.int .i64 0), (.int .i64 0)] := ⟨let ⟨i, a, b, _, _⟩ := info_of inf115; ⟨i, _, _, a, b, rfl, Tryz.underlying115, by kernel_rfl⟩⟩
instance : TZeroC Tryz.prog 116 [.nilFunc] := ⟨let ⟨i, a, b, _, _⟩ := info_of inf116; ⟨i, _, a, b, rfl⟩⟩
instance : TCell Tryz.prog 116 := ⟨⟨_, Tryz.underlying116, rfl⟩, let ⟨i, a, _, c, _⟩ := info_of inf116; ⟨i, a, c⟩⟩
instance : TZeroC Tryz.prog 117 [(.int .i64 0), (.string ByteArray.empty), (.int .i64 0), (.int .i64 0)] := ⟨let ⟨i, a, b, _, _⟩ := info_of inf117; ⟨i, _, a, b, rfl⟩⟩
instance : TAgg Tryz.prog 117 4 := ⟨⟨_, Tryz.underlying117, rfl⟩, let ⟨i, a, _, c, _⟩ := info_of inf117; ⟨i, a, c⟩⟩
instance : TFld Tryz.prog 117 0 0 := ⟨let ⟨i, a, _, c, _⟩ := info_of inf3; ⟨_, _, i, Tryz.underlying117, rfl, rfl, a, by rw [c]; decide⟩⟩
instance : TFld Tryz.prog 117 1 1 := ⟨let ⟨i, a, _, c, _⟩ := info_of inf9; ⟨_, _, i, Tryz.underlying117, rfl, rfl, a, by rw [c]; decide⟩⟩
instance : TFld Tryz.prog 117 2 2 := ⟨let ⟨i, a, _, c, _⟩ := info_of inf3; ⟨_, _, i, Tryz.underlying117, rfl, rfl, a, by rw [c]; decide⟩⟩
instance : TFld Tryz.prog 117 3 3 := ⟨let ⟨i, a, _, c, _⟩ := info_of inf3; ⟨_, _, i, Tryz.underlying117, rfl, rfl, a, by rw [c]; decide⟩⟩
instance : TFldV Tryz.prog 117 0 0 := ⟨⟨_, _, _, Tryz.underlying117, rfl, rfl, Tryz.underlying3, rfl⟩⟩
instance : TFldV Tryz.prog 117 1 1 := ⟨⟨_, _, _, Tryz.underlying117, rfl, rfl, Tryz.underlying9, rfl⟩⟩
instance : TFldV Tryz.prog 117 2 2 := ⟨⟨_, _, _, Tryz.underlying117, rfl, rfl, Tryz.underlying3, rfl⟩⟩
instance : TFldV Tryz.prog 117 3 3 := ⟨⟨_, _, _, Tryz.underlying117, rfl, rfl, Tryz.underlying3, rfl⟩⟩
instance : TStruct Tryz.prog 117 [(0, 1), (1, 1), (2, 1), (3, 1)] [(.int .i64 0), (.string ByteArray.empty), (.int .i64 0), (.int .i64 0)] := ⟨let ⟨i, a, b, _, _⟩ := info_of inf117; ⟨i, _, _, a, b, rfl, Tryz.underlying117, by kernel_rfl⟩⟩
instance : TZeroC Tryz.prog 118 [(.int .i64 0), (.string ByteArray.empty), (.int .i64 0), (.int .i64 0)] := ⟨let ⟨i, a, b, _, _⟩ := info_of inf118; ⟨i, _, a, b, rfl⟩⟩
instance : TAgg Tryz.prog 118 4 := ⟨⟨_, Tryz.underlying118, rfl⟩, let ⟨i, a, _, c, _⟩ := info_of inf118; ⟨i, a, c⟩⟩
instance : TFld Tryz.prog 118 0 0 := ⟨let ⟨i, a, _, c, _⟩ := info_of inf3; ⟨_, _, i, Tryz.underlying118, rfl, rfl, a, by rw [c]; decide⟩⟩
instance : TFld Tryz.prog 118 1 1 := ⟨let ⟨i, a, _, c, _⟩ := info_of inf9; ⟨_, _, i, Tryz.underlying118, rfl, rfl, a, by rw [c]; decide⟩⟩
instance : TFld Tryz.prog 118 2 2 := ⟨let ⟨i, a, _, c, _⟩ := info_of inf3; ⟨_, _, i, Tryz.underlying118, rfl, rfl, a, by rw [c]; decide⟩⟩
instance : TFld Tryz.prog 118 3 3 := ⟨let ⟨i, a, _, c, _⟩ := info_of inf3; ⟨_, _, i, Tryz.underlying118, rfl, rfl, a, by rw [c]; decide⟩⟩
instance : TFldV Tryz.prog 118 0 0 := ⟨⟨_, _, _, Tryz.underlying118, rfl, rfl, Tryz.underlying3, rfl⟩⟩
instance : TFldV Tryz.prog 118 1 1 := ⟨⟨_, _, _, Tryz.underlying118, rfl, rfl, Tryz.underlying9, rfl⟩⟩
instance : TFldV Tryz.prog 118 2 2 := ⟨⟨_, _, _, Tryz.underlying118, rfl, rfl, Tryz.underlying3, rfl⟩⟩
instance : TFldV Tryz.prog 118 3 3 := ⟨⟨_, _, _, Tryz.underlying118, rfl, rfl, Tryz.underlying3, rfl⟩⟩
instance : TFlat Tryz.prog 118 [.int .i64, .str, .int .i64, .int .i64] := ⟨⟨_, Tryz.underlying118, by kernel_rfl⟩, by kernel_rfl, by kernel_rfl⟩
instance : TStruct Tryz.prog 118 [(0, 1), (1, 1), (2, 1), (3, 1)] [(.int .i64 0), (.string ByteArray.empty), (.int .i64 0), (.int .i64 0)] := ⟨let ⟨i, a, b, _, _⟩ := info_of inf118; ⟨i, _, _, a, b, rfl, Tryz.underlying118, by kernel_rfl⟩⟩
instance : TZeroC Tryz.prog 120 [.nilFunc] := ⟨let ⟨i, a, b, _, _⟩ := info_of inf120; ⟨i, _, a, b, rfl⟩⟩
instance : TCell Tryz.prog 120 := ⟨⟨_, Tryz.underlying120, rfl⟩, let ⟨i, a, _, c, _⟩ := info_of inf120; ⟨i, a, c⟩⟩
instance : TZeroC Tryz.prog 121 [.nilFunc] := ⟨let ⟨i, a, b, _, _⟩ := info_of inf121; ⟨i, _, a, b, rfl⟩⟩
instance : TCell Tryz.prog 121 := ⟨⟨_, Tryz.underlying121, rfl⟩, let ⟨i, a, _, c, _⟩ := info_of inf121; ⟨i, a, c⟩⟩
instance : TZeroC Tryz.prog 122 [.nilFunc] := ⟨let ⟨i, a, b, _, _⟩ := info_of inf122; ⟨i, _, a, b, rfl⟩⟩
instance : TCell Tryz.prog 122 := ⟨⟨_, Tryz.underlying122, rfl⟩, let ⟨i, a, _, c, _⟩ := info_of inf122; ⟨i, a, c⟩⟩
instance : TZeroC Tryz.prog 123 [(.pointer none)] := ⟨let ⟨i, a, b, _, _⟩ := info_of inf123; ⟨i, _, a, b, rfl⟩⟩
instance : TCell Tryz.prog 123 := ⟨⟨_, Tryz.underlying123, rfl⟩, let ⟨i, a, _, c, _⟩ := info_of inf123; ⟨i, a, c⟩⟩
instance : TZeroC Tryz.prog 124 [(.int .u64 0)] := ⟨let ⟨i, a, b, _, _⟩ := info_of inf124; ⟨i, _, a, b, rfl⟩⟩
instance : TCell Tryz.prog 124 := ⟨⟨_, Tryz.underlying124, rfl⟩, let ⟨i, a, _, c, _⟩ := info_of inf124; ⟨i, a, c⟩⟩
instance : TInt Tryz.prog 124 .u64 := ⟨Tryz.underlying124⟩
instance : TZeroC Tryz.prog 125 [(.pointer none), (.pointer none), (.int .u64 0)] := ⟨let ⟨i, a, b, _, _⟩ := info_of inf125; ⟨i, _, a, b, rfl⟩⟩
instance : TAgg Tryz.prog 125 3 := ⟨⟨_, Tryz.underlying125, rfl⟩, let ⟨i, a, _, c, _⟩ := info_of inf125; ⟨i, a, c⟩⟩
instance : TFld Tryz.prog 125 1 1 := ⟨let ⟨i, a, _, c, _⟩ := info_of inf123; ⟨_, _, i, Tryz.underlying125, rfl, rfl, a, by rw [c]; decide⟩⟩
instance : TFld Tryz.prog 125 2 2 := ⟨let ⟨i, a, _, c, _⟩ := info_of inf124; ⟨_, _, i, Tryz.underlying125, rfl, rfl, a, by rw [c]; decide⟩⟩
instance : TFldV Tryz.prog 125 1 1 := ⟨⟨_, _, _, Tryz.underlying125, rfl, rfl, Tryz.underlying123, rfl⟩⟩
instance : TFldV Tryz.prog 125 2 2 := ⟨⟨_, _, _, Tryz.underlying125, rfl, rfl, Tryz.underlying124, rfl⟩⟩
instance : TZeroC Tryz.prog 126 [(.pointer none), (.pointer none), (.int .u64 0)] := ⟨let ⟨i, a, b, _, _⟩ := info_of inf126; ⟨i, _, a, b, rfl⟩⟩
instance : TAgg Tryz.prog 126 3 := ⟨⟨_, Tryz.underlying126, rfl⟩, let ⟨i, a, _, c, _⟩ := info_of inf126; ⟨i, a, c⟩⟩
instance : TFld Tryz.prog 126 1 1 := ⟨let ⟨i, a, _, c, _⟩ := info_of inf123; ⟨_, _, i, Tryz.underlying126, rfl, rfl, a, by rw [c]; decide⟩⟩
instance : TFld Tryz.prog 126 2 2 := ⟨let ⟨i, a, _, c, _⟩ := info_of inf124; ⟨_, _, i, Tryz.underlying126, rfl, rfl, a, by rw [c]; decide⟩⟩
instance : TFldV Tryz.prog 126 1 1 := ⟨⟨_, _, _, Tryz.underlying126, rfl, rfl, Tryz.underlying123, rfl⟩⟩
instance : TFldV Tryz.prog 126 2 2 := ⟨⟨_, _, _, Tryz.underlying126, rfl, rfl, Tryz.underlying124, rfl⟩⟩
instance : TZeroC Tryz.prog 127 [.nilFunc] := ⟨let ⟨i, a, b, _, _⟩ := info_of inf127; ⟨i, _, a, b, rfl⟩⟩
instance : TCell Tryz.prog 127 := ⟨⟨_, Tryz.underlying127, rfl⟩, let ⟨i, a, _, c, _⟩ := info_of inf127; ⟨i, a, c⟩⟩
instance : TZeroC Tryz.prog 128 [.nilFunc] := ⟨let ⟨i, a, b, _, _⟩ := info_of inf128; ⟨i, _, a, b, rfl⟩⟩
instance : TCell Tryz.prog 128 := ⟨⟨_, Tryz.underlying128, rfl⟩, let ⟨i, a, _, c, _⟩ := info_of inf128; ⟨i, a, c⟩⟩
instance : TZeroC Tryz.prog 130 [.nilFunc] := ⟨let ⟨i, a, b, _, _⟩ := info_of inf130; ⟨i, _, a, b, rfl⟩⟩
instance : TCell Tryz.prog 130 := ⟨⟨_, Tryz.underlying130, rfl⟩, let ⟨i, a, _, c, _⟩ := info_of inf130; ⟨i, a, c⟩⟩
instance : TZeroC Tryz.prog 131 [.nilFunc] := ⟨let ⟨i, a, b, _, _⟩ := info_of inf131; ⟨i, _, a, b, rfl⟩⟩
instance : TCell Tryz.prog 131 := ⟨⟨_, Tryz.underlying131, rfl⟩, let ⟨i, a, _, c, _⟩ := info_of inf131; ⟨i, a, c⟩⟩
instance : TZeroC Tryz.prog 132 [.nilFunc] := ⟨let ⟨i, a, b, _, _⟩ := info_of inf132; ⟨i, _, a, b, rfl⟩⟩
instance : TCell Tryz.prog 132 := ⟨⟨_, Tryz.underlying132, rfl⟩, let ⟨i, a, _, c, _⟩ := info_of inf132; ⟨i, a, c⟩⟩
instance : TZeroC Tryz.prog 133 [.nilFunc] := ⟨let ⟨i, a, b, _, _⟩ := info_of inf133; ⟨i, _, a, b, rfl⟩⟩
instance : TCell Tryz.prog 133 := ⟨⟨_, Tryz.underlying133, rfl⟩, let ⟨i, a, _, c, _⟩ := info_of inf133; ⟨i, a, c⟩⟩
instance : TZeroC Tryz.prog 134 [.nilFunc] := ⟨let ⟨i, a, b, _, _⟩ := info_of inf134; ⟨i, _, a, b, rfl⟩⟩
instance : TCell Tryz.prog 134 := ⟨⟨_, Tryz.underlying134, rfl⟩, let ⟨i, a, _, c, _⟩ := info_of inf134; ⟨i, a, c⟩⟩
instance : TZeroC Tryz.prog 135 [.nilFunc] := ⟨let ⟨i, a, b, _, _⟩ := info_of inf135; ⟨i, _, a, b, rfl⟩⟩
instance : TCell Tryz.prog 135 := ⟨⟨_, Tryz.underlying135, rfl⟩, let ⟨i, a, _, c, _⟩ := info_of inf135; ⟨i, a, c⟩⟩
instance : TZeroC Tryz.prog 136 [.nilFunc] := ⟨let ⟨i, a, b, _, _⟩ := info_of inf136; ⟨i, _, a, b, rfl⟩⟩
instance : TCell Tryz.prog 136 := ⟨⟨_, Tryz.underlying136, rfl⟩, let ⟨i, a, _, c, _⟩ := info_of inf136; ⟨i, a, c⟩⟩
instance : TZeroC Tryz.prog 137 [.nilFunc] := ⟨let ⟨i, a, b, _, _⟩ := info_of inf137; ⟨i, _, a, b, rfl⟩⟩
instance : TCell Tryz.prog 137 := ⟨⟨_, Tryz.underlying137, rfl⟩, let ⟨i, a, _, c, _⟩ := info_of inf137; ⟨i, a, c⟩⟩
instance : TZeroC Tryz.prog 138 [.nilFunc] := ⟨let ⟨i, a, b, _, _⟩ := info_of inf138; ⟨i, _, a, b, rfl⟩⟩
instance : TCell Tryz.prog 138 := ⟨⟨_, Tryz.underlying138, rfl⟩, let ⟨i, a, _, c, _⟩ := info_of inf138; ⟨i, a, c⟩⟩
instance : TZeroC Tryz.prog 139 [.nilFunc] := ⟨let ⟨i, a, b, _, _⟩ := info_of inf139; ⟨i, _, a, b, rfl⟩⟩
instance : TCell Tryz.prog 139 := ⟨⟨_, Tryz.underlying139, rfl⟩, let ⟨i, a, _, c, _⟩ := info_of inf139; ⟨i, a, c⟩⟩
instance : TZeroC Tryz.prog 140 [.nilFunc] := ⟨let ⟨i, a, b, _, _⟩ := info_of inf140; ⟨i, _, a, b, rfl⟩⟩
instance : TCell Tryz.prog 140 := ⟨⟨_, Tryz.underlying140, rfl⟩, let ⟨i, a, _, c, _⟩ := info_of inf140; ⟨i, a, c⟩⟩
instance : TZeroC Tryz.prog 141 [.nilFunc] := ⟨let ⟨i, a, b, _, _⟩ := info_of inf141; ⟨i, _, a, b, rfl⟩⟩
instance : TCell Tryz.prog 141 := ⟨⟨_, Tryz.underlying141, rfl⟩, let ⟨i, a, _, c, _⟩ := info_of inf141; ⟨i, a, c⟩⟩
instance : TZeroC Tryz.prog 142 [(.pointer none)] := ⟨let ⟨i, a, b, _, _⟩ := info_of inf142; ⟨i, _, a, b, rfl⟩⟩
instance : TCell Tryz.prog 142 := ⟨⟨_, Tryz.underlying142, rfl⟩, let ⟨i, a, _, c, _⟩ := info_of inf142; ⟨i, a, c⟩⟩
instance : TPtr Tryz.prog 142 := ⟨_, Tryz.underlying142⟩
instance : TZeroC Tryz.prog 143 [(.pointer none)] := ⟨let ⟨i, a, b, _, _⟩ := info_of inf143; ⟨i, _, a, b, rfl⟩⟩
instance : TAgg Tryz.prog 143 1 := ⟨⟨_, Tryz.underlying143, rfl⟩, let ⟨i, a, _, c, _⟩ := info_of inf143; ⟨i, a, c⟩⟩
instance : TZeroC Tryz.prog 144 [(.pointer none)] := ⟨let ⟨i, a, b, _, _⟩ := info_of inf144; ⟨i, _, a, b, rfl⟩⟩
instance : TAgg Tryz.prog 144 1 := ⟨⟨_, Tryz.underlying144, rfl⟩, let ⟨i, a, _, c, _⟩ := info_of inf144; ⟨i, a, c⟩⟩
instance : TZeroC Tryz.prog 145 [(.pointer none)] := ⟨let ⟨i, a, b, _, _⟩ := info_of inf145; ⟨i, _, a, b, rfl⟩⟩
instance : TCell Tryz.prog 145 := ⟨⟨_, Tryz.underlying145, rfl⟩, let ⟨i, a, _, c, _⟩ := info_of inf145; ⟨i, a, c⟩⟩
instance : TPtr Tryz.prog 145 := ⟨_, Tryz.underlying145⟩
instance : TZeroC Tryz.prog 146 [.nilIface] := ⟨let ⟨i, a, b, _, _⟩ := info_of inf146; ⟨i, _, a, b, rfl⟩⟩
instance : TCell Tryz.prog 146 := ⟨⟨_, Tryz.underlying146, rfl⟩, let ⟨i, a, _, c, _⟩ := info_of inf146; ⟨i, a, c⟩⟩
instance : TIfc Tryz.prog 146 := ⟨_, Tryz.underlying146⟩
instance : TZeroC Tryz.prog 148 [.nilFunc] := ⟨let ⟨i, a, b, _, _⟩ := info_of inf148; ⟨i, _, a, b, rfl⟩⟩
instance : TCell Tryz.prog 148 := ⟨⟨_, Tryz.underlying148, rfl⟩, let ⟨i, a, _, c, _⟩ := info_of inf148; ⟨i, a, c⟩⟩
instance : TZeroC Tryz.prog 149 [.nilIface] := ⟨let ⟨i, a, b, _, _⟩ := info_of inf149; ⟨i, _, a, b, rfl⟩⟩
instance : TCell Tryz.prog 149 := ⟨⟨_, Tryz.underlying149, rfl⟩, let ⟨i, a, _, c, _⟩ := info_of inf149; ⟨i, a, c⟩⟩
instance : TIfc Tryz.prog 149 := ⟨_, Tryz.underlying149⟩
instance : TZeroC Tryz.prog 150 [.nilFunc] := ⟨let ⟨i, a, b, _, _⟩ := info_of inf150; ⟨i, _, a, b, rfl⟩⟩
instance : TCell Tryz.prog 150 := ⟨⟨_, Tryz.underlying150, rfl⟩, let ⟨i, a, _, c, _⟩ := info_of inf150; ⟨i, a, c⟩⟩
instance : TZeroC Tryz.prog 151 [.nilIface] := ⟨let ⟨i, a, b, _, _⟩ := info_of inf151; ⟨i, _, a, b, rfl⟩⟩
instance : TCell Tryz.prog 151 := ⟨⟨_, Tryz.underlying151, rfl⟩, let ⟨i, a, _, c, _⟩ := info_of inf151; ⟨i, a, c⟩⟩
instance : TIfc Tryz.prog 151 := ⟨_, Tryz.underlying151⟩
instance : TZeroC Tryz.prog 152 [(.slice none 0 0)] := ⟨let ⟨i, a, b, _, _⟩ := info_of inf152; ⟨i, _, a, b, rfl⟩⟩
instance : TCell Tryz.prog 152 := ⟨⟨_, Tryz.underlying152, rfl⟩, let ⟨i, a, _, c, _⟩ := info_of inf152; ⟨i, a, c⟩⟩
instance : TSlice Tryz.prog 152 27 1 := ⟨let ⟨i, a, _, c, _⟩ := info_of inf27; ⟨i, Tryz.underlying152, a, c⟩⟩
instance : TElem Tryz.prog 152 27 1 16 [.nilIface] := ⟨let ⟨i, a, b, c, d⟩ := info_of inf27; ⟨i, _, Tryz.underlying152, a, c, d, b, rfl, rfl⟩⟩
instance : TZeroC Tryz.prog 153 [.nilFunc] := ⟨let ⟨i, a, b, _, _⟩ := info_of inf153; ⟨i, _, a, b, rfl⟩⟩
instance : TCell Tryz.prog 153 := ⟨⟨_, Tryz.underlying153, rfl⟩, let ⟨i, a, _, c, _⟩ := info_of inf153; ⟨i, a, c⟩⟩
instance : TZeroC Tryz.prog 154 [.nilFunc] := ⟨let ⟨i, a, b, _, _⟩ := info_of inf154; ⟨i, _, a, b, rfl⟩⟩
instance : TCell Tryz.prog 154 := ⟨⟨_, Tryz.underlying154, rfl⟩, let ⟨i, a, _, c, _⟩ := info_of inf154; ⟨i, a, c⟩⟩
instance : TZeroC Tryz.prog 155 [(.int .u64 0)] := ⟨let ⟨i, a, b, _, _⟩ := info_of inf155; ⟨i, _, a, b, rfl⟩⟩
instance : TCell Tryz.prog 155 := ⟨⟨_, Tryz.underlying155, rfl⟩, let ⟨i, a, _, c, _⟩ := info_of inf155; ⟨i, a, c⟩⟩
instance : TInt Tryz.prog 155 .u64 := ⟨Tryz.underlying155⟩
instance : TZeroC Tryz.prog 157 [.nilFunc] := ⟨let ⟨i, a, b, _, _⟩ := info_of inf157; ⟨i, _, a, b, rfl⟩⟩
instance : TCell Tryz.prog 157 := ⟨⟨_, Tryz.underlying157, rfl⟩, let ⟨i, a, _, c, _⟩ := info_of inf157; ⟨i, a, c⟩⟩
instance : TZeroC Tryz.prog 158 [.nilFunc] := ⟨let ⟨i, a, b, _, _⟩ := info_of inf158; ⟨i, _, a, b, rfl⟩⟩
instance : TCell Tryz.prog 158 := ⟨⟨_, Tryz.underlying158, rfl⟩, let ⟨i, a, _, c, _⟩ := info_of inf158; ⟨i, a, c⟩⟩
instance : TZeroC Tryz.prog 159 [.nilFunc] := ⟨let ⟨i, a, b, _, _⟩ := info_of inf159; ⟨i, _, a, b, rfl⟩⟩
instance : TCell Tryz.prog 159 := ⟨⟨_, Tryz.underlying159, rfl⟩, let ⟨i, a, _, c, _⟩ := info_of inf159; ⟨i, a, c⟩⟩
instance : TZeroC Tryz.prog 160 [.nilFunc] := ⟨let ⟨i, a, b, _, _⟩ := info_of inf160; ⟨i, _, a, b, rfl⟩⟩
instance : TCell Tryz.prog 160 := ⟨⟨_, Tryz.underlying160, rfl⟩, let ⟨i, a, _, c, _⟩ := info_of inf160; ⟨i, a, c⟩⟩
instance : TZeroC Tryz.prog 161 [.nilFunc] := ⟨let ⟨i, a, b, _, _⟩ := info_of inf161; ⟨i, _, a, b, rfl⟩⟩
instance : TCell Tryz.prog 161 := ⟨⟨_, Tryz.underlying161, rfl⟩, let ⟨i, a, _, c, _⟩ := info_of inf161; ⟨i, a, c⟩⟩
instance : TZeroC Tryz.prog 162 [.nilIface] := ⟨let ⟨i, a, b, _, _⟩ := info_of inf162; ⟨i, _, a, b, rfl⟩⟩
instance : TCell Tryz.prog 162 := ⟨⟨_, Tryz.underlying162, rfl⟩, let ⟨i, a, _, c, _⟩ := info_of inf162; ⟨i, a, c⟩⟩
instance : TIfc Tryz.prog 162 := ⟨_, Tryz.underlying162⟩
instance : TZeroC Tryz.prog 164 [.nilFunc] := ⟨let ⟨i, a, b, _, _⟩ := info_of inf164; ⟨i, _, a, b, rfl⟩⟩
instance : TCell Tryz.prog 164 := ⟨⟨_, Tryz.underlying164, rfl⟩, let ⟨i, a, _, c, _⟩ := info_of inf164; ⟨i, a, c⟩⟩
instance : TZeroC Tryz.prog 165 [.nilFunc] := ⟨let ⟨i, a, b, _, _⟩ := info_of inf165; ⟨i, _, a, b, rfl⟩⟩
instance : TCell Tryz.prog 165 := ⟨⟨_, Tryz.underlying165, rfl⟩, let ⟨i, a, _, c, _⟩ := info_of inf165; ⟨i, a, c⟩⟩
instance : TZeroC Tryz.prog 166 [.nilFunc] := ⟨let ⟨i, a, b, _, _⟩ := info_of inf166; ⟨i, _, a, b, rfl⟩⟩
instance : TCell Tryz.prog 166 := ⟨⟨_, Tryz.underlying166, rfl⟩, let ⟨i, a, _, c, _⟩ := info_of inf166; ⟨i, a, c⟩⟩
instance : TZeroC Tryz.prog 167 [.nilFunc] := ⟨let ⟨i, a, b, _, _⟩ := info_of inf167; ⟨i, _, a, b, rfl⟩⟩
instance : TCell Tryz.prog 167 := ⟨⟨_, Tryz.underlying167, rfl⟩, let ⟨i, a, _, c, _⟩ := info_of inf167; ⟨i, a, c⟩⟩
instance : TZeroC Tryz.prog 168 [.nilFunc] := ⟨let ⟨i, a, b, _, _⟩ := info_of inf168; ⟨i, _, a, b, rfl⟩⟩
instance : TCell Tryz.prog 168 := ⟨⟨_, Tryz.underlying168, rfl⟩, let ⟨i, a, _, c, _⟩ := info_of inf168; ⟨i, a, c⟩⟩
instance : TZeroC Tryz.prog 169 [.nilFunc] := ⟨let ⟨i, a, b, _, _⟩ := info_of inf169; ⟨i, _, a, b, rfl⟩⟩
instance : TCell Tryz.prog 169 := ⟨⟨_, Tryz.underlying169, rfl⟩, let ⟨i, a, _, c, _⟩ := info_of inf169; ⟨i, a, c⟩⟩
instance : TZeroC Tryz.prog 170 [.nilFunc] := ⟨let ⟨i, a, b, _, _⟩ := info_of inf170; ⟨i, _, a, b, rfl⟩⟩
instance : TCell Tryz.prog 170 := ⟨⟨_, Tryz.underlying170, rfl⟩, let ⟨i, a, _, c, _⟩ := info_of inf170; ⟨i, a, c⟩⟩
instance : TZeroC Tryz.prog 171 [.nilFunc] := ⟨let ⟨i, a, b, _, _⟩ := info_of inf171; ⟨i, _, a, b, rfl⟩⟩
instance : TCell Tryz.prog 171 := ⟨⟨_, Tryz.underlying171, rfl⟩, let ⟨i, a, _, c, _⟩ := info_of inf171; ⟨i, a, c⟩⟩
instance : TZeroC Tryz.prog 172 [.nilFunc] := ⟨let ⟨i, a, b, _, _⟩ := info_of inf172; ⟨i, _, a, b, rfl⟩⟩
instance : TCell Tryz.prog 172 := ⟨⟨_, Tryz.underlying172, rfl⟩, let ⟨i, a, _, c, _⟩ := info_of inf172; ⟨i, a, c⟩⟩
instance : TZeroC Tryz.prog 173 [(.string ByteArray.empty), (.string ByteArray.empty)] := ⟨let ⟨i, a, b, _, _⟩ := info_of inf173; ⟨i, _, a, b, rfl⟩⟩
instance : TAgg Tryz.prog 173 2 := ⟨⟨_, Tryz.underlying173, rfl⟩, let ⟨i, a, _, c, _⟩ := info_of inf173; ⟨i, a, c⟩⟩
instance : TFld Tryz.prog 173 0 0 := ⟨let ⟨i, a, _, c, _⟩ := info_of inf9; ⟨_, _, i, Tryz.underlying173, rfl, rfl, a, by rw [c]; decide⟩⟩
instance : TFld Tryz.prog 173 1 1 := ⟨let ⟨i, a, _, c, _⟩ := info_of inf9; ⟨_, _, i, Tryz.underlying173, rfl, rfl, a, by rw [c]; decide⟩⟩
instance : TFldV Tryz.prog 173 0 0 := ⟨⟨_, _, _, Tryz.underlying173, rfl, rfl, Tryz.underlying9, rfl⟩⟩
instance : TFldV Tryz.prog 173 1 1 := ⟨⟨_, _, _, Tryz.underlying173, rfl, rfl, Tryz.underlying9, rfl⟩⟩
instance : TStruct Tryz.prog 173 [(0, 1), (1, 1)] [(.string ByteArray.empty), (.string ByteArray.empty)] := ⟨let ⟨i, a, b, _, _⟩ := info_of inf173; ⟨i, _, _, a, b, rfl, Tryz.underlying173, by kernel_rfl⟩⟩
instance : TZeroC Tryz.prog 174 [(.string ByteArray.empty), (.string ByteArray.empty)] := ⟨let ⟨i, a, b, _, _⟩ := info_of inf174; ⟨i, _, a, b, rfl⟩⟩
instance : TAgg Tryz.prog 174 2 := ⟨⟨_, Tryz.underlying174, rfl⟩, let ⟨i, a, _, c, _⟩ := info_of inf174; ⟨i, a, c⟩⟩
instance : TFld Tryz.prog 174 0 0 := ⟨let ⟨i, a, _, c, _⟩ := info_of inf9; ⟨_, _, i, Tryz.underlying174, rfl, rfl, a, by rw [c]; decide⟩⟩
instance : TFld Tryz.prog 174 1 1 := ⟨let ⟨i, a, _, c, _⟩ := info_of inf9; ⟨_, _, i, Tryz.underlying174, rfl, rfl, a, by rw [c]; decide⟩⟩
instance : TFldV Tryz.prog 174 0 0 := ⟨⟨_, _, _, Tryz.underlying174, rfl, rfl, Tryz.underlying9, rfl⟩⟩
instance : TFldV Tryz.prog 174 1 1 := ⟨⟨_, _, _, Tryz.underlying174, rfl, rfl, Tryz.underlying9, rfl⟩⟩
instance : TFlat Tryz.prog 174 [.str, .str] := ⟨⟨_, Tryz.underlying174, by kernel_rfl⟩, by kernel_rfl, by kernel_rfl⟩
instance : TStruct Tryz.prog 174 [(0, 1), (1, 1)] [(.string ByteArray.empty), (.string ByteArray.empty)] := ⟨let ⟨i, a, b, _, _⟩ := info_of inf174; ⟨i, _, _, a, b, rfl, Tryz.underlying174, by kernel_rfl⟩⟩
instance : TZeroC Tryz.prog 175 [(.string ByteArray.empty), (.string ByteArray.empty), (.string ByteArray.empty), (.string ByteArray.empty), (.string ByteArray.empty), (.string ByteArray.empty), (.string ByteArray.empty), (.string ByteArray.empty), (.string ByteArray.empty), (.string ByteArray.empty), (.string ByteArray.empty), (.string ByteArray.empty), (.string ByteArray.empty), (.string ByteArray.empty), (.string ByteArray.empty), (.string ByteArray.empty), (.string ByteArray.empty), (.string ByteArray.empty), (.string ByteArray.empty), (.string ByteArray.empty), (.string ByteArray.empty), (.string ByteArray.empty), (.string ByteArray.empty), (.string ByteArray.empty)] := ⟨let ⟨i, a, b, _, _⟩ := info_of inf175; ⟨i, _, a, b, rfl⟩⟩
instance : TAgg Tryz.prog 175 24 := ⟨⟨_, Tryz.underlying175, rfl⟩, let ⟨i, a, _, c, _⟩ := info_of inf175; ⟨i, a, c⟩⟩
instance : TArr Tryz.prog 175 12 2 := ⟨let ⟨i, a, _, c, _⟩ := info_of inf174; ⟨_, i, Tryz.underlying175, a, c⟩⟩
instance : TZeroC Tryz.prog 176 [.nilFunc] := ⟨let ⟨i, a, b, _, _⟩ := info_of inf176; ⟨i, _, a, b, rfl⟩⟩
instance : TCell Tryz.prog 176 := ⟨⟨_, Tryz.underlying176, rfl⟩, let ⟨i, a, _, c, _⟩ := info_of inf176; ⟨i, a, c⟩⟩
instance : TZeroC Tryz.prog 177 [.nilFunc] := ⟨let ⟨i, a, b, _, _⟩ := info_of inf177; ⟨i, _, a, b, rfl⟩⟩
instance : TCell Tryz.prog 177 := ⟨⟨_, Tryz.underlying177, rfl⟩, let ⟨i, a, _, c, _⟩ := info_of inf177; ⟨i, a, c⟩⟩
instance : TZeroC Tryz.prog 178 [.nilFunc] := ⟨let ⟨i, a, b, _, _⟩ := info_of inf178; ⟨i, _, a, b, rfl⟩⟩
instance : TCell Tryz.prog 178 := ⟨⟨_, Tryz.underlying178, rfl⟩, let ⟨i, a, _, c, _⟩ := info_of inf178; ⟨i, a, c⟩⟩
instance : TZeroC Tryz.prog 179 [.nilFunc] := ⟨let ⟨i, a, b, _, _⟩ := info_of inf179; ⟨i, _, a, b, rfl⟩⟩
instance : TCell Tryz.prog 179 := ⟨⟨_, Tryz.underlying179, rfl⟩, let ⟨i, a, _, c, _⟩ := info_of inf179; ⟨i, a, c⟩⟩
instance : TZeroC Tryz.prog 180 [.nilFunc] := ⟨let ⟨i, a, b, _, _⟩ := info_of inf180; ⟨i, _, a, b, rfl⟩⟩
instance : TCell Tryz.prog 180 := ⟨⟨_, Tryz.underlying180, rfl⟩, let ⟨i, a, _, c, _⟩ := info_of inf180; ⟨i, a, c⟩⟩
instance : TZeroC Tryz.prog 181 [.nilFunc] := ⟨let ⟨i, a, b, _, _⟩ := info_of inf181; ⟨i, _, a, b, rfl⟩⟩
instance : TCell Tryz.prog 181 := ⟨⟨_, Tryz.underlying181, rfl⟩, let ⟨i, a, _, c, _⟩ := info_of inf181; ⟨i, a, c⟩⟩
instance : TZeroC Tryz.prog 182 [.nilFunc] := ⟨let ⟨i, a, b, _, _⟩ := info_of inf182; ⟨i, _, a, b, rfl⟩⟩
instance : TCell Tryz.prog 182 := ⟨⟨_, Tryz.underlying182, rfl⟩, let ⟨i, a, _, c, _⟩ := info_of inf182; ⟨i, a, c⟩⟩
instance : TZeroC Tryz.prog 183 [.nilFunc] := ⟨let ⟨i, a, b, _, _⟩ := info_of inf183; ⟨i, _, a, b, rfl⟩⟩
instance : TCell Tryz.prog 183 := ⟨⟨_, Tryz.underlying183, rfl⟩, let ⟨i, a, _, c, _⟩ := info_of inf183; ⟨i, a, c⟩⟩
instance : TZeroC Tryz.prog 185 [.nilFunc] := ⟨let ⟨i, a, b, _, _⟩ := info_of inf185; ⟨i, _, a, b, rfl⟩⟩
instance : TCell Tryz.prog 185 := ⟨⟨_, Tryz.underlying185, rfl⟩, let ⟨i, a, _, c, _⟩ := info_of inf185; ⟨i, a, c⟩⟩
instance : TZeroC Tryz.prog 186 [.nilFunc] := ⟨let ⟨i, a, b, _, _⟩ := info_of inf186; ⟨i, _, a, b, rfl⟩⟩
instance : TCell Tryz.prog 186 := ⟨⟨_, Tryz.underlying186, rfl⟩, let ⟨i, a, _, c, _⟩ := info_of inf186; ⟨i, a, c⟩⟩
instance : TZeroC Tryz.prog 187 [(.int .u8 0), (.int .u8 0), (.int .u8 0), (.int .u8 0), (.int .u8 0), (.int .u8 0), (.int .u8 0), (.int .u8 0), (.int .u8 0), (.int .u8 0), (.int .u8 0), (.int .u8 0), (.int .u8 0), (.int .u8 0), (.int .u8 0), (.int .u8 0), (.int .u8 0), (.int .u8 0), (.int .u8 0), (.int .u8 0), (.int .u8 0), (.int .u8 0), (.int .u8 0), (.int .u8 0)] := ⟨let ⟨i, a, b, _, _⟩ := info_of inf187; ⟨i, _, a, b, rfl⟩⟩
instance : TAgg Tryz.prog 187 24 := ⟨⟨_, Tryz.underlying187, rfl⟩, let ⟨i, a, _, c, _⟩ := info_of inf187; ⟨i, a, c⟩⟩
instance : TArr Tryz.prog 187 24 1 := ⟨let ⟨i, a, _, c, _⟩ := info_of inf5; ⟨_, i, Tryz.underlying187, a, c⟩⟩
instance : TZeroC Tryz.prog 188 [.nilFunc] := ⟨let ⟨i, a, b, _, _⟩ := info_of inf188; ⟨i, _, a, b, rfl⟩⟩
instance : TCell Tryz.prog 188 := ⟨⟨_, Tryz.underlying188, rfl⟩, let ⟨i, a, _, c, _⟩ := info_of inf188; ⟨i, a, c⟩⟩
instance : TZeroC Tryz.prog 189 [.nilFunc] := ⟨let ⟨i, a, b, _, _⟩ := info_of inf189; ⟨i, _, a, b, rfl⟩⟩
instance : TCell Tryz.prog 189 := ⟨⟨_, Tryz.underlying189, rfl⟩, let ⟨i, a, _, c, _⟩ := info_of inf189; ⟨i, a, c⟩⟩
instance : TZeroC Tryz.prog 191 [.nilFunc] := ⟨let ⟨i, a, b, _, _⟩ := info_of inf191; ⟨i, _, a, b, rfl⟩⟩
instance : TCell Tryz.prog 191 := ⟨⟨_, Tryz.underlying191, rfl⟩, let ⟨i, a, _, c, _⟩ := info_of inf191; ⟨i, a, c⟩⟩
instance : TZeroC Tryz.prog 192 [(.int .i64 0)] := ⟨let ⟨i, a, b, _, _⟩ := info_of inf192; ⟨i, _, a, b, rfl⟩⟩
instance : TCell Tryz.prog 192 := ⟨⟨_, Tryz.underlying192, rfl⟩, let ⟨i, a, _, c, _⟩ := info_of inf192; ⟨i, a, c⟩⟩
instance : TInt Tryz.prog 192 .i64 := ⟨Tryz.underlying192⟩
instance : TZeroC Tryz.prog 193 [.nilFunc] := ⟨let ⟨i, a, b, _, _⟩ := info_of inf193; ⟨i, _, a, b, rfl⟩⟩
instance : TCell Tryz.prog 193 := ⟨⟨_, Tryz.underlying193, rfl⟩, let ⟨i, a, _, c, _⟩ := info_of inf193; ⟨i, a, c⟩⟩
instance : TZeroC Tryz.prog 194 [(.int .u64 0)] := ⟨let ⟨i, a, b, _, _⟩ := info_of inf194; ⟨i, _, a, b, rfl⟩⟩
instance : TCell Tryz.prog 194 := ⟨⟨_, Tryz.underlying194, rfl⟩, let ⟨i, a, _, c, _⟩ := info_of inf194; ⟨i, a, c⟩⟩
instance : TInt Tryz.prog 194 .u64 := ⟨Tryz.underlying194⟩
instance : TZeroC Tryz.prog 195 [(.pointer none)] := ⟨let ⟨i, a, b, _, _⟩ := info_of inf195; ⟨i, _, a, b, rfl⟩⟩
instance : TCell Tryz.prog 195 := ⟨⟨_, Tryz.underlying195, rfl⟩, let ⟨i, a, _, c, _⟩ := info_of inf195; ⟨i, a, c⟩⟩
instance : TPtr Tryz.prog 195 := ⟨_, Tryz.underlying195⟩
instance : TZeroC Tryz.prog 196 [.nilFunc] := ⟨let ⟨i, a, b, _, _⟩ := info_of inf196; ⟨i, _, a, b, rfl⟩⟩
instance : TCell Tryz.prog 196 := ⟨⟨_, Tryz.underlying196, rfl⟩, let ⟨i, a, _, c, _⟩ := info_of inf196; ⟨i, a, c⟩⟩
instance : TZeroC Tryz.prog 197 [.nilFunc] := ⟨let ⟨i, a, b, _, _⟩ := info_of inf197; ⟨i, _, a, b, rfl⟩⟩
instance : TCell Tryz.prog 197 := ⟨⟨_, Tryz.underlying197, rfl⟩, let ⟨i, a, _, c, _⟩ := info_of inf197; ⟨i, a, c⟩⟩
instance : TZeroC Tryz.prog 198 [.nilFunc] := ⟨let ⟨i, a, b, _, _⟩ := info_of inf198; ⟨i, _, a, b, rfl⟩⟩
instance : TCell Tryz.prog 198 := ⟨⟨_, Tryz.underlying198, rfl⟩, let ⟨i, a, _, c, _⟩ := info_of inf198; ⟨i, a, c⟩⟩
instance : TZeroC Tryz.prog 199 [(.pointer none)] := ⟨let ⟨i, a, b, _, _⟩ := info_of inf199; ⟨i, _, a, b, rfl⟩⟩
instance : TCell Tryz.prog 199 := ⟨⟨_, Tryz.underlying199, rfl⟩, let ⟨i, a, _, c, _⟩ := info_of inf199; ⟨i, a, c⟩⟩
instance : TPtr Tryz.prog 199 := ⟨_, Tryz.underlying199⟩
instance : TZeroC Tryz.prog 200 [.nilFunc] := ⟨let ⟨i, a, b, _, _⟩ := info_of inf200; ⟨i, _, a, b, rfl⟩⟩
instance : TCell Tryz.prog 200 := ⟨⟨_, Tryz.underlying200, rfl⟩, let ⟨i, a, _, c, _⟩ := info_of inf200; ⟨i, a, c⟩⟩
instance : TZeroC Tryz.prog 201 [.nilFunc] := ⟨let ⟨i, a, b, _, _⟩ := info_of inf201; ⟨i, _, a, b, rfl⟩⟩
instance : TCell Tryz.prog 201 := ⟨⟨_, Tryz.underlying201, rfl⟩, let ⟨i, a, _, c, _⟩ := info_of inf201; ⟨i, a, c⟩⟩
instance : TZeroC Tryz.prog 202 [.nilFunc] := ⟨let ⟨i, a, b, _, _⟩ := info_of inf202; ⟨i, _, a, b, rfl⟩⟩
instance : TCell Tryz.prog 202 := ⟨⟨_, Tryz.underlying202, rfl⟩, let ⟨i, a, _, c, _⟩ := info_of inf202; ⟨i, a, c⟩⟩
instance : TZeroC Tryz.prog 203 [.nilFunc] := ⟨let ⟨i, a, b, _, _⟩ := info_of inf203; ⟨i, _, a, b, rfl⟩⟩
instance : TCell Tryz.prog 203 := ⟨⟨_, Tryz.underlying203, rfl⟩, let ⟨i, a, _, c, _⟩ := info_of inf203; ⟨i, a, c⟩⟩
instance : TZeroC Tryz.prog 204 [(.int .u64 0), (.int .u64 0), (.int .u64 0), (.int .u64 0), (.int .u64 0), (.int .u64 0), (.int .u64 0), (.int .u64 0), (.int .u64 0), (.int .u64 0), (.int .u64 0), (.int .u64 0), (.int .u64 0), (.int .u64 0), (.int .u64 0), (.int .u64 0), (.int .u64 0), (.int .u64 0), (.int .u64 0), (.int .u64 0)] := ⟨let ⟨i, a, b, _, _⟩ := info_of inf204; ⟨i, _, a, b, rfl⟩⟩
instance : TAgg Tryz.prog 204 20 := ⟨⟨_, Tryz.underlying204, rfl⟩, let ⟨i, a, _, c, _⟩ := info_of inf204; ⟨i, a, c⟩⟩
instance : TArr Tryz.prog 204 20 1 := ⟨let ⟨i, a, _, c, _⟩ := info_of inf155; ⟨_, i, Tryz.underlying204, a, c⟩⟩
instance : TZeroC Tryz.prog 205 [(.int .u32 0)] := ⟨let ⟨i, a, b, _, _⟩ := info_of inf205; ⟨i, _, a, b, rfl⟩⟩
instance : TCell Tryz.prog 205 := ⟨⟨_, Tryz.underlying205, rfl⟩, let ⟨i, a, _, c, _⟩ := info_of inf205; ⟨i, a, c⟩⟩
instance : TInt Tryz.prog 205 .u32 := ⟨Tryz.underlying205⟩
instance : TZeroC Tryz.prog 206 [(.int .u8 0), (.int .u8 0), (.int .u8 0), (.int .u8 0), (.int .u8 0), (.int .u8 0), (.int .u8 0), (.int .u8 0), (.int .u8 0), (.int .u8 0), (.int .u8 0), (.int .u8 0), (.int .u8 0), (.int .u8 0), (.int .u8 0), (.int .u8 0), (.int .u8 0), (.int .u8 0), (.int .u8 0), (.int .u8 0), (.int .u8 0), (.int .u8 0), (.int .u8 0), (.int .u8 0), (.int .u8 0), (.int .u8 0), (.int .u8 0), (.int .u8 0), (.int .u8 0), (.int .u8 0), (.int .u8 0), (.int .u8 0), (.int .u8 0), (.int .u8 0), (.int .u8 0), (.int .u8 0), (.int .u8 0), (.int .u8 0), (.int .u8 0), (.int .u8 0), (.int .u8 0), (.int .u8 0), (.int .u8 0), (.int .u8 0), (.int .u8 0), (.int .u8 0), (.int .u8 0), (.int .u8 0), (.int .u8 0), (.int .u8 0), (.int .u8 0), (.int .u8 0), (.int .u8 0), (.int .u8 0), (.int .u8 0), (.int .u8 0), (.int .u8 0), (.int .u8 0), (.int .u8 0), (.int .u8 0), (.int .u8 0), (.int .u8 0), (.int .u8 0), (.int .u8 0), (.int .u8 0)] := ⟨let ⟨i, a, b, _, _⟩ := info_of inf206; ⟨i, _, a, b, rfl⟩⟩
instance : TAgg Tryz.prog 206 65 := ⟨⟨_, Tryz.underlying206, rfl⟩, let ⟨i, a, _, c, _⟩ := info_of inf206; ⟨i, a, c⟩⟩
instance : TArr Tryz.prog 206 65 1 := ⟨let ⟨i, a, _, c, _⟩ := info_of inf5; ⟨_, i, Tryz.underlying206, a, c⟩⟩
instance : TZeroC Tryz.prog 207 [.nilFunc] := ⟨let ⟨i, a, b, _, _⟩ := info_of inf207; ⟨i, _, a, b, rfl⟩⟩
instance : TCell Tryz.prog 207 := ⟨⟨_, Tryz.underlying207, rfl⟩, let ⟨i, a, _, c, _⟩ := info_of inf207; ⟨i, a, c⟩⟩
instance : TZeroC Tryz.prog 208 [.nilFunc] := ⟨let ⟨i, a, b, _, _⟩ := info_of inf208; ⟨i, _, a, b, rfl⟩⟩
instance : TCell Tryz.prog 208 := ⟨⟨_, Tryz.underlying208, rfl⟩, let ⟨i, a, _, c, _⟩ := info_of inf208; ⟨i, a, c⟩⟩
instance : TZeroC Tryz.prog 209 [.nilFunc] := ⟨let ⟨i, a, b, _, _⟩ := info_of inf209; ⟨i, _, a, b, rfl⟩⟩
instance : TCell Tryz.prog 209 := ⟨⟨_, Tryz.underlying209, rfl⟩, let ⟨i, a, _, c, _⟩ := info_of inf209; ⟨i, a, c⟩⟩
instance : TZeroC Tryz.prog 210 [(.string ByteArray.empty), (.string ByteArray.empty), .nilIface] := ⟨let ⟨i, a, b, _, _⟩ := info_of inf210; ⟨i, _, a, b, rfl⟩⟩
instance : TAgg Tryz.prog 210 3 := ⟨⟨_, Tryz.underlying210, rfl⟩, let ⟨i, a, _, c, _⟩ := info_of inf210; ⟨i, a, c⟩⟩
instance : TFld Tryz.prog 210 0 0 := ⟨let ⟨i, a, _, c, _⟩ := info_of inf9; ⟨_, _, i, Tryz.underlying210, rfl, rfl, a, by rw [c]; decide⟩⟩
instance : TFld Tryz.prog 210 1 1 := ⟨let ⟨i, a, _, c, _⟩ := info_of inf9; ⟨_, _, i, Tryz.underlying210, rfl, rfl, a, by rw [c]; decide⟩⟩
instance : TFld Tryz.prog 210 2 2 := ⟨let ⟨i, a, _, c, _⟩ := info_of inf27; ⟨_, _, i, Tryz.underlying210, rfl, rfl, a, by rw [c]; decide⟩⟩
instance : TFldV Tryz.prog 210 0 0 := ⟨⟨_, _, _, Tryz.underlying210, rfl, rfl, Tryz.underlying9, rfl⟩⟩
instance : TFldV Tryz.prog 210 1 1 := ⟨⟨_, _, _, Tryz.underlying210, rfl, rfl, Tryz.underlying9, rfl⟩⟩
instance : TFldV Tryz.prog 210 2 2 := ⟨⟨_, _, _, Tryz.underlying210, rfl, rfl, Tryz.underlying27, rfl⟩⟩
instance : TStruct Tryz.prog 210 [(0, 1), (1, 1), (2, 1)] [(.string ByteArray.empty), (.string ByteArray.empty), .nilIface] := ⟨let ⟨i, a, b, _, _⟩ := info_of inf210; ⟨i, _, _, a, b, rfl, Tryz.underlying210, by kernel_rfl⟩⟩
instance : TZeroC Tryz.prog 211 [(.string ByteArray.empty), (.string ByteArray.empty), .nilIface] := ⟨let ⟨i, a, b, _, _⟩ := info_of inf211; ⟨i, _, a, b, rfl⟩⟩
instance : TAgg Tryz.prog 211 3 := ⟨⟨_, Tryz.underlying211, rfl⟩, let ⟨i, a, _, c, _⟩ := info_of inf211; ⟨i, a, c⟩⟩
instance : TFld Tryz.prog 211 0 0 := ⟨let ⟨i, a, _, c, _⟩ := info_of inf9; ⟨_, _, i, Tryz.underlying211, rfl, rfl, a, by rw [c]; decide⟩⟩
instance : TFld Tryz.prog 211 1 1 := ⟨let ⟨i, a, _, c, _⟩ := info_of inf9; ⟨_, _, i, Tryz.underlying211, rfl, rfl, a, by rw [c]; decide⟩⟩
instance : TFld Tryz.prog 211 2 2 := ⟨let ⟨i, a, _, c, _⟩ := info_of inf27; ⟨_, _, i, Tryz.underlying211, rfl, rfl, a, by rw [c]; decide⟩⟩
instance : TFldV Tryz.prog 211 0 0 := ⟨⟨_, _, _, Tryz.underlying211, rfl, rfl, Tryz.underlying9, rfl⟩⟩
instance : TFldV Tryz.prog 211 1 1 := ⟨⟨_, _, _, Tryz.underlying211, rfl, rfl, Tryz.underlying9, rfl⟩⟩
instance : TFldV Tryz.prog 211 2 2 := ⟨⟨_, _, _, Tryz.underlying211, rfl, rfl, Tryz.underlying27, rfl⟩⟩
instance : TStruct Tryz.prog 211 [(0, 1), (1, 1), (2, 1)] [(.string ByteArray.empty), (.string ByteArray.empty), .nilIface] := ⟨let ⟨i, a, b, _, _⟩ := info_of inf211; ⟨i, _, _, a, b, rfl, Tryz.underlying211, by kernel_rfl⟩⟩
instance : TZeroC Tryz.prog 212 [.nilFunc] := ⟨let ⟨i, a, b, _, _⟩ := info_of inf212; ⟨i, _, a, b, rfl⟩⟩
instance : TCell Tryz.prog 212 := ⟨⟨_, Tryz.underlying212, rfl⟩, let ⟨i, a, _, c, _⟩ := info_of inf212; ⟨i, a, c⟩⟩
instance : TZeroC Tryz.prog 213 [.nilFunc] := ⟨let ⟨i, a, b, _, _⟩ := info_of inf213; ⟨i, _, a, b, rfl⟩⟩
instance : TCell Tryz.prog 213 := ⟨⟨_, Tryz.underlying213, rfl⟩, let ⟨i, a, _, c, _⟩ := info_of inf213; ⟨i, a, c⟩⟩
instance : TZeroC Tryz.prog 214 [(.pointer none)] := ⟨let ⟨i, a, b, _, _⟩ := info_of inf214; ⟨i, _, a, b, rfl⟩⟩
instance : TCell Tryz.prog 214 := ⟨⟨_, Tryz.underlying214, rfl⟩, let ⟨i, a, _, c, _⟩ := info_of inf214; ⟨i, a, c⟩⟩
instance : TPtr Tryz.prog 214 := ⟨_, Tryz.underlying214⟩
instance : TZeroC Tryz.prog 215 [(.string ByteArray.empty)] := ⟨let ⟨i, a, b, _, _⟩ := info_of inf215; ⟨i, _, a, b, rfl⟩⟩
instance : TAgg Tryz.prog 215 1 := ⟨⟨_, Tryz.underlying215, rfl⟩, let ⟨i, a, _, c, _⟩ := info_of inf215; ⟨i, a, c⟩⟩
instance : TFld Tryz.prog 215 0 0 := ⟨let ⟨i, a, _, c, _⟩ := info_of inf9; ⟨_, _, i, Tryz.underlying215, rfl, rfl, a, by rw [c]; decide⟩⟩
instance : TFldV Tryz.prog 215 0 0 := ⟨⟨_, _, _, Tryz.underlying215, rfl, rfl, Tryz.underlying9, rfl⟩⟩
instance : TStruct Tryz.prog 215 [(0, 1)] [(.string ByteArray.empty)] := ⟨let ⟨i, a, b, _, _⟩ := info_of inf215; ⟨i, _, _, a, b, rfl, Tryz.underlying215, by kernel_rfl⟩⟩
instance : TZeroC Tryz.prog 216 [(.string ByteArray.empty)] := ⟨let ⟨i, a, b, _, _⟩ := info_of inf216; ⟨i, _, a, b, rfl⟩⟩
instance : TAgg Tryz.prog 216 1 := ⟨⟨_, Tryz.underlying216, rfl⟩, let ⟨i, a, _, c, _⟩ := info_of inf216; ⟨i, a, c⟩⟩
instance : TFld Tryz.prog 216 0 0 := ⟨let ⟨i, a, _, c, _⟩ := info_of inf9; ⟨_, _, i, Tryz.underlying216, rfl, rfl, a, by rw [c]; decide⟩⟩
instance : TFldV Tryz.prog 216 0 0 := ⟨⟨_, _, _, Tryz.underlying216, rfl, rfl, Tryz.underlying9, rfl⟩⟩
instance : TStruct Tryz.prog 216 [(0, 1)] [(.string ByteArray.empty)] := ⟨let ⟨i, a, b, _, _⟩ := info_of inf216; ⟨i, _, _, a, b, rfl, Tryz.underlying216, by kernel_rfl⟩⟩
instance : TZeroC Tryz.prog 217 [(.int .u8 0), (.int .u8 0), (.int .u8 0), (.int .u8 0), (.int .u8 0), (.int .u8 0), (.int .u8 0), (.int .u8 0), (.int .u8 0), (.int .u8 0), (.int .u8 0), (.int .u8 0), (.int .u8 0), (.int .u8 0), (.int .u8 0), (.int .u8 0), (.int .u8 0), (.int .u8 0), (.int .u8 0), (.int .u8 0), (.int .u8 0), (.int .u8 0), (.int .u8 0), (.int .u8 0), (.int .u8 0), (.int .u8 0), (.int .u8 0), (.int .u8 0), (.int .u8 0), (.int .u8 0), (.int .u8 0), (.int .u8 0)] := ⟨let ⟨i, a, b, _, _⟩ := info_of inf217; ⟨i, _, a, b, rfl⟩⟩
instance : TAgg Tryz.prog 217 32 := ⟨⟨_, Tryz.underlying217, rfl⟩, let ⟨i, a, _, c, _⟩ := info_of inf217; ⟨i, a, c⟩⟩
instance : TArr Tryz.prog 217 32 1 := ⟨let ⟨i, a, _, c, _⟩ := info_of inf5; ⟨_, i, Tryz.underlying217, a, c⟩⟩
instance : TZeroC Tryz.prog 218 [(.int .u8 0), (.int .u8 0), (.int .u8 0), (.int .u8 0), (.int .u8 0), (.int .u8 0), (.int .u8 0), (.int .u8 0), (.int .u8 0), (.int .u8 0), (.int .u8 0), (.int .u8 0), (.int .u8 0), (.int .u8 0), (.int .u8 0), (.int .u8 0), (.int .u8 0), (.int .u8 0), (.int .u8 0), (.int .u8 0), (.int .u8 0), (.int .u8 0), (.int .u8 0), (.int .u8 0), (.int .u8 0), (.int .u8 0), (.int .u8 0), (.int .u8 0), (.int .u8 0), (.int .u8 0), (.int .u8 0), (.int .u8 0), (.int .u8 0), (.int .u8 0), (.int .u8 0), (.int .u8 0), (.int .u8 0), (.int .u8 0), (.int .u8 0), (.int .u8 0), (.int .u8 0), (.int .u8 0), (.int .u8 0), (.int .u8 0), (.int .u8 0), (.int .u8 0), (.int .u8 0), (.int .u8 0), (.int .u8 0), (.int .u8 0), (.int .u8 0), (.int .u8 0), (.int .u8 0), (.int .u8 0), (.int .u8 0), (.int .u8 0), (.int .u8 0), (.int .u8 0), (.int .u8 0), (.int .u8 0), (.int .u8 0), (.int .u8 0), (.int .u8 0), (.int .u8 0)] := ⟨let ⟨i, a, b, _, _⟩ := info_of inf218; ⟨i, _, a, b, rfl⟩⟩
instance : TAgg Tryz.prog 218 64 := ⟨⟨_, Tryz.underlying218, rfl⟩, let ⟨i, a, _, c, _⟩ := info_of inf218; ⟨i, a, c⟩⟩
instance : TArr Tryz.prog 218 64 1 := ⟨let ⟨i, a, _, c, _⟩ := info_of inf5; ⟨_, i, Tryz.underlying218, a, c⟩⟩
instance : TZeroC Tryz.prog 219 [(.pointer none), (.pointer none), (.pointer none), (.string ByteArray.empty)] := ⟨let ⟨i, a, b, _, _⟩ := info_of inf219; ⟨i, _, a, b, rfl⟩⟩
instance : TAgg Tryz.prog 219 4 := ⟨⟨_, Tryz.underlying219, rfl⟩, let ⟨i, a, _, c, _⟩ := info_of inf219; ⟨i, a, c⟩⟩
instance : TFld Tryz.prog 219 3 3 := ⟨let ⟨i, a, _, c, _⟩ := info_of inf9; ⟨_, _, i, Tryz.underlying219, rfl, rfl, a, by rw [c]; decide⟩⟩
instance : TFldV Tryz.prog 219 3 3 := ⟨⟨_, _, _, Tryz.underlying219, rfl, rfl, Tryz.underlying9, rfl⟩⟩
instance : TZeroC Tryz.prog 221 [] := ⟨let ⟨i, a, b, _, _⟩ := info_of inf221; ⟨i, _, a, b, rfl⟩⟩
instance : TAgg Tryz.prog 221 0 := ⟨⟨_, Tryz.underlying221, rfl⟩, let ⟨i, a, _, c, _⟩ := info_of inf221; ⟨i, a, c⟩⟩
instance : TZeroC Tryz.prog 222 [] := ⟨let ⟨i, a, b, _, _⟩ := info_of inf222; ⟨i, _, a, b, rfl⟩⟩
instance : TAgg Tryz.prog 222 0 := ⟨⟨_, Tryz.underlying222, rfl⟩, let ⟨i, a, _, c, _⟩ := info_of inf222; ⟨i, a, c⟩⟩
instance : TFldA Tryz.prog 222 0 0 0 := ⟨let ⟨i, a, _, c, _⟩ := info_of inf221; ⟨_, _, _, i, Tryz.underlying222, rfl, rfl, Tryz.underlying221, rfl, a, c⟩⟩
instance : TStruct Tryz.prog 222 [(0, 0)] [] := ⟨let ⟨i, a, b, _, _⟩ := info_of inf222; ⟨i, _, _, a, b, rfl, Tryz.underlying222, by kernel_rfl⟩⟩
instance : TZeroC Tryz.prog 224 [.nilFunc] := ⟨let ⟨i, a, b, _, _⟩ := info_of inf224; ⟨i, _, a, b, rfl⟩⟩
instance : TCell Tryz.prog 224 := ⟨⟨_, Tryz.underlying224, rfl⟩, let ⟨i, a, _, c, _⟩ := info_of inf224; ⟨i, a, c⟩⟩
instance : TZeroC Tryz.prog 226 [.nilFunc] := ⟨let ⟨i, a, b, _, _⟩ := info_of inf226; ⟨i, _, a, b, rfl⟩⟩
instance : TCell Tryz.prog 226 := ⟨⟨_, Tryz.underlying226, rfl⟩, let ⟨i, a, _, c, _⟩ := info_of inf226; ⟨i, a, c⟩⟩
instance : TZeroC Tryz.prog 229 [(.int .u64 0), (.int .u64 0), (.int .u32 0), (.int .u8 0), (.int .u8 0), (.int .u8 0), (.int .u8 0), .nilFunc, (.pointer none), (.int .i32 0), (.int .i32 0)] := ⟨let ⟨i, a, b, _, _⟩ := info_of inf229; ⟨i, _, a, b, rfl⟩⟩
instance : TAgg Tryz.prog 229 11 := ⟨⟨_, Tryz.underlying229, rfl⟩, let ⟨i, a, _, c, _⟩ := info_of inf229; ⟨i, a, c⟩⟩
instance : TFld Tryz.prog 229 0 0 := ⟨let ⟨i, a, _, c, _⟩ := info_of inf12; ⟨_, _, i, Tryz.underlying229, rfl, rfl, a, by rw [c]; decide⟩⟩
instance : TFld Tryz.prog 229 1 1 := ⟨let ⟨i, a, _, c, _⟩ := info_of inf12; ⟨_, _, i, Tryz.underlying229, rfl, rfl, a, by rw [c]; decide⟩⟩
instance : TFld Tryz.prog 229 2 2 := ⟨let ⟨i, a, _, c, _⟩ := info_of inf205; ⟨_, _, i, Tryz.underlying229, rfl, rfl, a, by rw [c]; decide⟩⟩
instance : TFld Tryz.prog 229 4 4 := ⟨let ⟨i, a, _, c, _⟩ := info_of inf5; ⟨_, _, i, Tryz.underlying229, rfl, rfl, a, by rw [c]; decide⟩⟩
instance : TFld Tryz.prog 229 5 5 := ⟨let ⟨i, a, _, c, _⟩ := info_of inf5; ⟨_, _, i, Tryz.underlying229, rfl, rfl, a, by rw [c]; decide⟩⟩
instance : TFld Tryz.prog 229 7 7 := ⟨let ⟨i, a, _, c, _⟩ := info_of inf226; ⟨_, _, i, Tryz.underlying229, rfl, rfl, a, by rw [c]; decide⟩⟩
instance : TFld Tryz.prog 229 8 8 := ⟨let ⟨i, a, _, c, _⟩ := info_of inf142; ⟨_, _, i, Tryz.underlying229, rfl, rfl, a, by rw [c]; decide⟩⟩
instance : TFldV Tryz.prog 229 0 0 := ⟨⟨_, _, _, Tryz.underlying229, rfl, rfl, Tryz.underlying12, rfl⟩⟩
instance : TFldV Tryz.prog 229 1 1 := ⟨⟨_, _, _, Tryz.underlying229, rfl, rfl, Tryz.underlying12, rfl⟩⟩
instance : TFldV Tryz.prog 229 2 2 := ⟨⟨_, _, _, Tryz.underlying229, rfl, rfl, Tryz.underlying205, rfl⟩⟩
instance : TFldV Tryz.prog 229 4 4 := ⟨⟨_, _, _, Tryz.underlying229, rfl, rfl, Tryz.underlying5, rfl⟩⟩
instance : TFldV Tryz.prog 229 5 5 := ⟨⟨_, _, _, Tryz.underlying229, rfl, rfl, Tryz.underlying5, rfl⟩⟩
instance : TFldV Tryz.prog 229 7 7 := ⟨⟨_, _, _, Tryz.underlying229, rfl, rfl, Tryz.underlying226, rfl⟩⟩
instance : TFldV Tryz.prog 229 8 8 := ⟨⟨_, _, _, Tryz.underlying229, rfl, rfl, Tryz.underlying142, rfl⟩⟩
instance : TZeroC Tryz.prog 231 [.nilFunc] := ⟨let ⟨i, a, b, _, _⟩ := info_of inf231; ⟨i, _, a, b, rfl⟩⟩
instance : TCell Tryz.prog 231 := ⟨⟨_, Tryz.underlying231, rfl⟩, let ⟨i, a, _, c, _⟩ := info_of inf231; ⟨i, a, c⟩⟩
instance : TZeroC Tryz.prog 232 [.nilFunc] := ⟨let ⟨i, a, b, _, _⟩ := info_of inf232; ⟨i, _, a, b, rfl⟩⟩
instance : TCell Tryz.prog 232 := ⟨⟨_, Tryz.underlying232, rfl⟩, let ⟨i, a, _, c, _⟩ := info_of inf232; ⟨i, a, c⟩⟩
instance : TZeroC Tryz.prog 233 [(.string ByteArray.empty), (.int .u8 0)] := ⟨let ⟨i, a, b, _, _⟩ := info_of inf233; ⟨i, _, a, b, rfl⟩⟩
instance : TAgg Tryz.prog 233 2 := ⟨⟨_, Tryz.underlying233, rfl⟩, let ⟨i, a, _, c, _⟩ := info_of inf233; ⟨i, a, c⟩⟩
instance : TFld Tryz.prog 233 0 0 := ⟨let ⟨i, a, _, c, _⟩ := info_of inf9; ⟨_, _, i, Tryz.underlying233, rfl, rfl, a, by rw [c]; decide⟩⟩
instance : TFldV Tryz.prog 233 0 0 := ⟨⟨_, _, _, Tryz.underlying233, rfl, rfl, Tryz.underlying9, rfl⟩⟩
instance : TZeroC Tryz.prog 234 [(.string ByteArray.empty), (.int .u8 0)] := ⟨let ⟨i, a, b, _, _⟩ := info_of inf234; ⟨i, _, a, b, rfl⟩⟩
instance : TAgg Tryz.prog 234 2 := ⟨⟨_, Tryz.underlying234, rfl⟩, let ⟨i, a, _, c, _⟩ := info_of inf234; ⟨i, a, c⟩⟩
instance : TFld Tryz.prog 234 0 0 := ⟨let ⟨i, a, _, c, _⟩ := info_of inf9; ⟨_, _, i, Tryz.underlying234, rfl, rfl, a, by rw [c]; decide⟩⟩
instance : TFldV Tryz.prog 234 0 0 := ⟨⟨_, _, _, Tryz.underlying234, rfl, rfl, Tryz.underlying9, rfl⟩⟩
instance : TZeroC Tryz.prog 236 [.nilFunc] := ⟨let ⟨i, a, b, _, _⟩ := info_of inf236; ⟨i, _, a, b, rfl⟩⟩
instance : TCell Tryz.prog 236 := ⟨⟨_, Tryz.underlying236, rfl⟩, let ⟨i, a, _, c, _⟩ := info_of inf236; ⟨i, a, c⟩⟩
instance : TZeroC Tryz.prog 237 [(.int .u16 0)] := ⟨let ⟨i, a, b, _, _⟩ := info_of inf237; ⟨i, _, a, b, rfl⟩⟩
instance : TCell Tryz.prog 237 := ⟨⟨_, Tryz.underlying237, rfl⟩, let ⟨i, a, _, c, _⟩ := info_of inf237; ⟨i, a, c⟩⟩
instance : TInt Tryz.prog 237 .u16 := ⟨Tryz.underlying237⟩
instance : TZeroC Tryz.prog 238 [(.int .i32 0), (.int .u16 0), (.int .u16 0), (.int .u32 0), (.int .u32 0)] := ⟨let ⟨i, a, b, _, _⟩ := info_of inf238; ⟨i, _, a, b, rfl⟩⟩
instance : TAgg Tryz.prog 238 5 := ⟨⟨_, Tryz.underlying238, rfl⟩, let ⟨i, a, _, c, _⟩ := info_of inf238; ⟨i, a, c⟩⟩
instance : TFld Tryz.prog 238 1 1 := ⟨let ⟨i, a, _, c, _⟩ := info_of inf237; ⟨_, _, i, Tryz.underlying238, rfl, rfl, a, by rw [c]; decide⟩⟩
instance : TFld Tryz.prog 238 2 2 := ⟨let ⟨i, a, _, c, _⟩ := info_of inf237; ⟨_, _, i, Tryz.underlying238, rfl, rfl, a, by rw [c]; decide⟩⟩
instance : TFld Tryz.prog 238 3 3 := ⟨let ⟨i, a, _, c, _⟩ := info_of inf205; ⟨_, _, i, Tryz.underlying238, rfl, rfl, a, by rw [c]; decide⟩⟩
instance : TFld Tryz.prog 238 4 4 := ⟨let ⟨i, a, _, c, _⟩ := info_of inf205; ⟨_, _, i, Tryz.underlying238, rfl, rfl, a, by rw [c]; decide⟩⟩
instance : TFldV Tryz.prog 238 1 1 := ⟨⟨_, _, _, Tryz.underlying238, rfl, rfl, Tryz.underlying237, rfl⟩⟩
instance : TFldV Tryz.prog 238 2 2 := ⟨⟨_, _, _, Tryz.underlying238, rfl, rfl, Tryz.underlying237, rfl⟩⟩
instance : TFldV Tryz.prog 238 3 3 := ⟨⟨_, _, _, Tryz.underlying238, rfl, rfl, Tryz.underlying205, rfl⟩⟩
instance : TFldV Tryz.prog 238 4 4 := ⟨⟨_, _, _, Tryz.underlying238, rfl, rfl, Tryz.underlying205, rfl⟩⟩
instance : TZeroC Tryz.prog 240 [(.slice none 0 0)] := ⟨let ⟨i, a, b, _, _⟩ := info_of inf240; ⟨i, _, a, b, rfl⟩⟩
instance : TCell Tryz.prog 240 := ⟨⟨_, Tryz.underlying240, rfl⟩, let ⟨i, a, _, c, _⟩ := info_of inf240; ⟨i, a, c⟩⟩
instance : TZeroC Tryz.prog 242 [(.int .i32 0), (.int .i32 0), (.int .i32 0), (.int .i32 0)] := ⟨let ⟨i, a, b, _, _⟩ := info_of inf242; ⟨i, _, a, b, rfl⟩⟩
instance : TAgg Tryz.prog 242 4 := ⟨⟨_, Tryz.underlying242, rfl⟩, let ⟨i, a, _, c, _⟩ := info_of inf242; ⟨i, a, c⟩⟩
instance : TZeroC Tryz.prog 244 [(.pointer none)] := ⟨let ⟨i, a, b, _, _⟩ := info_of inf244; ⟨i, _, a, b, rfl⟩⟩
instance : TCell Tryz.prog 244 := ⟨⟨_, Tryz.underlying244, rfl⟩, let ⟨i, a, _, c, _⟩ := info_of inf244; ⟨i, a, c⟩⟩
instance : TPtr Tryz.prog 244 := ⟨_, Tryz.underlying244⟩
instance : TFunc Tryz.prog 2 := ⟨_, _, Tryz.func2, rfl, by decide⟩
instance : TFunc Tryz.prog 3 := ⟨_, _, Tryz.func3, rfl, by decide⟩
instance : TFunc Tryz.prog 4 := ⟨_, _, Tryz.func4, rfl, by decide⟩
instance : TFunc Tryz.prog 5 := ⟨_, _, Tryz.func5, rfl, by decide⟩
instance : TFunc Tryz.prog 6 := ⟨_, _, Tryz.func6, rfl, by decide⟩
instance : TFunc Tryz.prog 7 := ⟨_, _, Tryz.func7, rfl, by decide⟩
instance : TFunc Tryz.prog 8 := ⟨_, _, Tryz.func8, rfl, by decide⟩
instance : TFunc Tryz.prog 9 := ⟨_, _, Tryz.func9, rfl, by decide⟩
instance : TFunc Tryz.prog 10 := ⟨_, _, Tryz.func10, rfl, by decide⟩
instance : TFunc Tryz.prog 11 := ⟨_, _, Tryz.func11, rfl, by decide⟩
instance : TFunc Tryz.prog 12 := ⟨_, _, Tryz.func12, rfl, by decide⟩
instance : TFunc Tryz.prog 13 := ⟨_, _, Tryz.func13, rfl, by decide⟩
instance : TFunc Tryz.prog 14 := ⟨_, _, Tryz.func14, rfl, by decide⟩
instance : TFunc Tryz.prog 15 := ⟨_, _, Tryz.func15, rfl, by decide⟩
instance : TFunc Tryz.prog 16 := ⟨_, _, Tryz.func16, rfl, by decide⟩
instance : TFunc Tryz.prog 17 := ⟨_, _, Tryz.func17, rfl, by decide⟩
instance : TFunc Tryz.prog 18 := ⟨_, _, Tryz.func18, rfl, by decide⟩
instance : TFunc Tryz.prog 19 := ⟨_, _, Tryz.func19, rfl, by decide⟩
instance : TFunc Tryz.prog 20 := ⟨_, _, Tryz.func20, rfl, by decide⟩
instance : TFunc Tryz.prog 21 := ⟨_, _, Tryz.func21, rfl, by decide⟩
instance : TFunc Tryz.prog 22 := ⟨_, _, Tryz.func22, rfl, by decide⟩
instance : TFunc Tryz.prog 23 := ⟨_, _, Tryz.func23, rfl, by decide⟩
instance : TFunc Tryz.prog 24 := ⟨_, _, Tryz.func24, rfl, by decide⟩
instance : TFunc Tryz.prog 25 := ⟨_, _, Tryz.func25, rfl, by decide⟩
instance : TFunc Tryz.prog 26 := ⟨_, _, Tryz.func26, rfl, by decide⟩
instance : TFunc Tryz.prog 27 := ⟨_, _, Tryz.func27, rfl, by decide⟩
instance : TFunc Tryz.prog 28 := ⟨_, _, Tryz.func28, rfl, by decide⟩
instance : TFunc Tryz.prog 29 := ⟨_, _, Tryz.func29, rfl, by decide⟩
instance : TFunc Tryz.prog 30 := ⟨_, _, Tryz.func30, rfl, by decide⟩
instance : TFunc Tryz.prog 31 := ⟨_, _, Tryz.func31, rfl, by decide⟩
instance : TFunc Tryz.prog 32 := ⟨_, _, Tryz.func32, rfl, by decide⟩
instance : TFunc Tryz.prog 33 := ⟨_, _, Tryz.func33, rfl, by decide⟩
instance : TFunc Tryz.prog 34 := ⟨_, _, Tryz.func34, rfl, by decide⟩
instance : TFunc Tryz.prog 35 := ⟨_, _, Tryz.func35, rfl, by decide⟩
instance : TFunc Tryz.prog 36 := ⟨_, _, Tryz.func36, rfl, by decide⟩
instance : TFunc Tryz.prog 37 := ⟨_, _, Tryz.func37, rfl, by decide⟩
instance : TFunc Tryz.prog 38 := ⟨_, _, Tryz.func38, rfl, by decide⟩
instance : TFunc Tryz.prog 39 := ⟨_, _, Tryz.func39, rfl, by decide⟩
instance : TFunc Tryz.prog 40 := ⟨_, _, Tryz.func40, rfl, by decide⟩
instance : TFunc Tryz.prog 41 := ⟨_, _, Tryz.func41, rfl, by decide⟩
instance : TFunc Tryz.prog 42 := ⟨_, _, Tryz.func42, rfl, by decide⟩
instance : TFunc Tryz.prog 43 := ⟨_, _, Tryz.func43, rfl, by decide⟩
instance : TFunc Tryz.prog 44 := ⟨_, _, Tryz.func44, rfl, by decide⟩
instance : TFunc Tryz.prog 45 := ⟨_, _, Tryz.func45, rfl, by decide⟩
instance : TFunc Tryz.prog 46 := ⟨_, _, Tryz.func46, rfl, by decide⟩
instance : TFunc Tryz.prog 47 := ⟨_, _, Tryz.func47, rfl, by decide⟩
instance : TFunc Tryz.prog 48 := ⟨_, _, Tryz.func48, rfl, by decide⟩
instance : TFunc Tryz.prog 49 := ⟨_, _, Tryz.func49, rfl, by decide⟩
instance : TFunc Tryz.prog 50 := ⟨_, _, Tryz.func50, rfl, by decide⟩
instance : TFunc Tryz.prog 52 := ⟨_, _, Tryz.func52, rfl, by decide⟩
instance : TFunc Tryz.prog 53 := ⟨_, _, Tryz.func53, rfl, by decide⟩
instance : TFunc Tryz.prog 54 := ⟨_, _, Tryz.func54, rfl, by decide⟩
instance : TFunc Tryz.prog 55 := ⟨_, _, Tryz.func55, rfl, by decide⟩
instance : TFunc Tryz.prog 56 := ⟨_, _, Tryz.func56, rfl, by decide⟩
instance : TFunc Tryz.prog 57 := ⟨_, _, Tryz.func57, rfl, by decide⟩
instance : TFunc Tryz.prog 58 := ⟨_, _, Tryz.func58, rfl, by decide⟩
instance : TFunc Tryz.prog 59 := ⟨_, _, Tryz.func59, rfl, by decide⟩
instance : TFunc Tryz.prog 60 := ⟨_, _, Tryz.func60, rfl, by decide⟩
instance : TFunc Tryz.prog 61 := ⟨_, _, Tryz.func61, rfl, by decide⟩
instance : TFunc Tryz.prog 65 := ⟨_, _, Tryz.func65, rfl, by decide⟩
instance : TFunc Tryz.prog 66 := ⟨_, _, Tryz.func66, rfl, by decide⟩
instance : TFunc Tryz.prog 67 := ⟨_, _, Tryz.func67, rfl, by decide⟩
instance : TFunc Tryz.prog 68 := ⟨_, _, Tryz.func68, rfl, by decide⟩
instance : TFunc Tryz.prog 69 := ⟨_, _, Tryz.func69, rfl, by decide⟩
instance : TFunc Tryz.prog 70 := ⟨_, _, Tryz.func70, rfl, by decide⟩
instance : TFunc Tryz.prog 71 := ⟨_, _, Tryz.func71, rfl, by decide⟩
instance : TFunc Tryz.prog 72 := ⟨_, _, Tryz.func72, rfl, by decide⟩
instance : TFunc Tryz.prog 73 := ⟨_, _, Tryz.func73, rfl, by decide⟩
instance : TFunc Tryz.prog 74 := ⟨_, _, Tryz.func74, rfl, by decide⟩
instance : TFunc Tryz.prog 75 := ⟨_, _, Tryz.func75, rfl, by decide⟩
instance : TFunc Tryz.prog 76 := ⟨_, _, Tryz.func76, rfl, by decide⟩
instance : TFunc Tryz.prog 77 := ⟨_, _, Tryz.func77, rfl, by decide⟩
instance : TFunc Tryz.prog 78 := ⟨_, _, Tryz.func78, rfl, by decide⟩
instance : TFunc Tryz.prog 79 := ⟨_, _, Tryz.func79, rfl, by decide⟩
instance : TFunc Tryz.prog 80 := ⟨_, _, Tryz.func80, rfl, by decide⟩
instance : TFunc Tryz.prog 81 := ⟨_, _, Tryz.func81, rfl, by decide⟩
instance : TFunc Tryz.prog 82 := ⟨_, _, Tryz.func82, rfl, by decide⟩
instance : TFunc Tryz.prog 83 := ⟨_, _, Tryz.func83, rfl, by decide⟩
instance : TFunc Tryz.prog 84 := ⟨_, _, Tryz.func84, rfl, by decide⟩
instance : TFunc Tryz.prog 85 := ⟨_, _, Tryz.func85, rfl, by decide⟩
instance : TFunc Tryz.prog 86 := ⟨_, _, Tryz.func86, rfl, by decide⟩
instance : TFunc Tryz.prog 90 := ⟨_, _, Tryz.func90, rfl, by decide⟩
instance : TFunc Tryz.prog 91 := ⟨_, _, Tryz.func91, rfl, by decide⟩
instance : TFunc Tryz.prog 92 := ⟨_, _, Tryz.func92, rfl, by decide⟩
instance : TFunc Tryz.prog 93 := ⟨_, _, Tryz.func93, rfl, by decide⟩
instance : TFunc Tryz.prog 94 := ⟨_, _, Tryz.func94, rfl, by decide⟩
instance : TFunc Tryz.prog 95 := ⟨_, _, Tryz.func95, rfl, by decide⟩
instance : TFunc Tryz.prog 96 := ⟨_, _, Tryz.func96, rfl, by decide⟩
instance : TFunc Tryz.prog 97 := ⟨_, _, Tryz.func97, rfl, by decide⟩
instance : TFunc Tryz.prog 98 := ⟨_, _, Tryz.func98, rfl, by decide⟩
instance : TFunc Tryz.prog 99 := ⟨_, _, Tryz.func99, rfl, by decide⟩
instance : TFunc Tryz.prog 100 := ⟨_, _, Tryz.func100, rfl, by decide⟩
instance : TFunc Tryz.prog 103 := ⟨_, _, Tryz.func103, rfl, by decide⟩
instance : TFunc Tryz.prog 104 := ⟨_, _, Tryz.func104, rfl, by decide⟩
instance : TFunc Tryz.prog 105 := ⟨_, _, Tryz.func105, rfl, by decide⟩
instance : TFunc Tryz.prog 106 := ⟨_, _, Tryz.func106, rfl, by decide⟩
instance : TFunc Tryz.prog 107 := ⟨_, _, Tryz.func107, rfl, by decide⟩
instance : TFunc Tryz.prog 108 := ⟨_, _, Tryz.func108, rfl, by decide⟩
instance : TFunc Tryz.prog 109 := ⟨_, _, Tryz.func109, rfl, by decide⟩
instance : TFunc Tryz.prog 110 := ⟨_, _, Tryz.func110, rfl, by decide⟩
instance : TFunc Tryz.prog 111 := ⟨_, _, Tryz.func111, rfl, by decide⟩
instance : TFunc Tryz.prog 112 := ⟨_, _, Tryz.func112, rfl, by decide⟩
instance : TFunc Tryz.prog 113 := ⟨_, _, Tryz.func113, rfl, by decide⟩
instance : TFunc Tryz.prog 114 := ⟨_, _, Tryz.func114, rfl, by decide⟩
instance : TFunc Tryz.prog 115 := ⟨_, _, Tryz.func115, rfl, by decide⟩
instance : TFunc Tryz.prog 116 := ⟨_, _, Tryz.func116, rfl, by decide⟩
instance : TFunc Tryz.prog 117 := ⟨_, _, Tryz.func117, rfl, by decide⟩
instance : TFunc Tryz.prog 119 := ⟨_, _, Tryz.func119, rfl, by decide⟩
instance : TFunc Tryz.prog 120 := ⟨_, _, Tryz.func120, rfl, by decide⟩
instance : TFunc Tryz.prog 121 := ⟨_, _, Tryz.func121, rfl, by decide⟩
instance : TFunc Tryz.prog 122 := ⟨_, _, Tryz.func122, rfl, by decide⟩
instance : TFunc Tryz.prog 123 := ⟨_, _, Tryz.func123, rfl, by decide⟩
instance : TFunc Tryz.prog 124 := ⟨_, _, Tryz.func124, rfl, by decide⟩
instance : TFunc Tryz.prog 125 := ⟨_, _, Tryz.func125, rfl, by decide⟩
instance : TFunc Tryz.prog 126 := ⟨_, _, Tryz.func126, rfl, by decide⟩
instance : TFunc Tryz.prog 127 := ⟨_, _, Tryz.func127, rfl, by decide⟩
instance : TFunc Tryz.prog 128 := ⟨_, _, Tryz.func128, rfl, by decide⟩
instance : TFunc Tryz.prog 129 := ⟨_, _, Tryz.func129, rfl, by decide⟩
instance : TFunc Tryz.prog 130 := ⟨_, _, Tryz.func130, rfl, by decide⟩
instance : TFunc Tryz.prog 131 := ⟨_, _, Tryz.func131, rfl, by decide⟩
instance : TFunc Tryz.prog 132 := ⟨_, _, Tryz.func132, rfl, by decide⟩
instance : TFunc Tryz.prog 133 := ⟨_, _, Tryz.func133, rfl, by decide⟩
instance : TFunc Tryz.prog 134 := ⟨_, _, Tryz.func134, rfl, by decide⟩
instance : TFunc Tryz.prog 135 := ⟨_, _, Tryz.func135, rfl, by decide⟩
instance : TFunc Tryz.prog 136 := ⟨_, _, Tryz.func136, rfl, by decide⟩
instance : TFunc Tryz.prog 156 := ⟨_, _, Tryz.func156, rfl, by decide⟩
instance : TFunc Tryz.prog 158 := ⟨_, _, Tryz.func158, rfl, by decide⟩
instance : TFunc Tryz.prog 176 := ⟨_, _, Tryz.func176, rfl, by decide⟩
instance : TFunc Tryz.prog 187 := ⟨_, _, Tryz.func187, rfl, by decide⟩
theorem mixed : Tryz.prog.follows .mixedOrders = true := by kernel_rfl
end Go.Proofs.YtgmdlhlmffdbhaaGreatDoor.L
