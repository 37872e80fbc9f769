/-
  Facts on the program's types and functions, by program. Own work.
-/
import Derived.Test.YtgmdlhlmffdbhaaDoorErr
import Derived.Test.YtgmdlhlmffdbhaaDoorChecked
import Derived.KernelRfl
set_option linter.unusedSimpArgs false
set_option linter.unusedVariables false
namespace Go.Proofs.YtgmdlhlmffdbhaaDoor.L
open Go.L
theorem info_of {P : Program} {t : TypeId} {z : Value} {s b : Nat} (h : (P.info? t).map (fun i => (i.zero, i.size, i.bytes)) = some (some z, s, b)) : ∃ i, P.info? t = some i ∧ i.zero = some z ∧ i.size = s ∧ i.bytes = b := by
  cases hi : P.info? t with
  | none => rw [hi] at h; cases h
  | some i => rw [hi] at h; simp only [Option.map_some, Option.some.injEq, Prod.mk.injEq] at h; exact ⟨i, rfl, h.1, h.2.1, h.2.2⟩
theorem inf1 : (Tryd.prog.info? 1).map (fun i => (i.zero, i.size, i.bytes)) = some (some .nilFunc, 1, 8) := by kernel_rfl
theorem inf2 : (Tryd.prog.info? 2).map (fun i => (i.zero, i.size, i.bytes)) = some (some (.int .i64 0), 1, 8) := by kernel_rfl
theorem inf3 : (Tryd.prog.info? 3).map (fun i => (i.zero, i.size, i.bytes)) = some (some (.int .i64 0), 1, 8) := by kernel_rfl
theorem inf4 : (Tryd.prog.info? 4).map (fun i => (i.zero, i.size, i.bytes)) = some (some (.bool false), 1, 1) := by kernel_rfl
theorem inf5 : (Tryd.prog.info? 5).map (fun i => (i.zero, i.size, i.bytes)) = some (some (.int .u8 0), 1, 1) := by kernel_rfl
theorem inf7 : (Tryd.prog.info? 7).map (fun i => (i.zero, i.size, i.bytes)) = some (some (.agg #[(.int .i64 0), (.int .i64 0), (.bool false), (.int .u8 0)]), 4, 24) := by kernel_rfl
theorem inf9 : (Tryd.prog.info? 9).map (fun i => (i.zero, i.size, i.bytes)) = some (some (.string ByteArray.empty), 1, 16) := by kernel_rfl
theorem inf12 : (Tryd.prog.info? 12).map (fun i => (i.zero, i.size, i.bytes)) = some (some (.int .u64 0), 1, 8) := by kernel_rfl
theorem inf13 : (Tryd.prog.info? 13).map (fun i => (i.zero, i.size, i.bytes)) = some (some (.agg #[(.string ByteArray.empty), (.int .u64 0)]), 2, 24) := by kernel_rfl
theorem inf18 : (Tryd.prog.info? 18).map (fun i => (i.zero, i.size, i.bytes)) = some (some (.agg #[(.pointer none)]), 1, 8) := by kernel_rfl
theorem inf20 : (Tryd.prog.info? 20).map (fun i => (i.zero, i.size, i.bytes)) = some (some .nilIface, 1, 16) := by kernel_rfl
theorem inf21 : (Tryd.prog.info? 21).map (fun i => (i.zero, i.size, i.bytes)) = some (some (.int .i32 0), 1, 4) := by kernel_rfl
theorem inf22 : (Tryd.prog.info? 22).map (fun i => (i.zero, i.size, i.bytes)) = some (some (.slice none 0 0), 1, 24) := by kernel_rfl
theorem inf23 : (Tryd.prog.info? 23).map (fun i => (i.zero, i.size, i.bytes)) = some (some (.agg #[(.slice none 0 0)]), 1, 24) := by kernel_rfl
theorem inf24 : (Tryd.prog.info? 24).map (fun i => (i.zero, i.size, i.bytes)) = some (some (.agg #[(.slice none 0 0)]), 1, 24) := by kernel_rfl
theorem inf25 : (Tryd.prog.info? 25).map (fun i => (i.zero, i.size, i.bytes)) = some (some .nilFunc, 1, 8) := by kernel_rfl
theorem inf26 : (Tryd.prog.info? 26).map (fun i => (i.zero, i.size, i.bytes)) = some (some .nilIface, 1, 16) := by kernel_rfl
theorem inf27 : (Tryd.prog.info? 27).map (fun i => (i.zero, i.size, i.bytes)) = some (some .nilIface, 1, 16) := by kernel_rfl
theorem inf28 : (Tryd.prog.info? 28).map (fun i => (i.zero, i.size, i.bytes)) = some (some .nilFunc, 1, 8) := by kernel_rfl
theorem inf29 : (Tryd.prog.info? 29).map (fun i => (i.zero, i.size, i.bytes)) = some (some (.slice none 0 0), 1, 24) := by kernel_rfl
theorem inf30 : (Tryd.prog.info? 30).map (fun i => (i.zero, i.size, i.bytes)) = some (some (.agg #[(.int .i64 0), (.slice none 0 0)]), 2, 32) := by kernel_rfl
theorem inf31 : (Tryd.prog.info? 31).map (fun i => (i.zero, i.size, i.bytes)) = some (some (.agg #[(.int .i64 0), (.slice none 0 0)]), 2, 32) := by kernel_rfl
theorem inf32 : (Tryd.prog.info? 32).map (fun i => (i.zero, i.size, i.bytes)) = some (some .nilFunc, 1, 8) := by kernel_rfl
theorem inf33 : (Tryd.prog.info? 33).map (fun i => (i.zero, i.size, i.bytes)) = some (some (.int .i64 0), 1, 8) := by kernel_rfl
theorem inf34 : (Tryd.prog.info? 34).map (fun i => (i.zero, i.size, i.bytes)) = some (some .nilFunc, 1, 8) := by kernel_rfl
theorem inf35 : (Tryd.prog.info? 35).map (fun i => (i.zero, i.size, i.bytes)) = some (some .nilFunc, 1, 8) := by kernel_rfl
theorem inf36 : (Tryd.prog.info? 36).map (fun i => (i.zero, i.size, i.bytes)) = some (some .nilFunc, 1, 8) := by kernel_rfl
theorem inf37 : (Tryd.prog.info? 37).map (fun i => (i.zero, i.size, i.bytes)) = some (some .nilFunc, 1, 8) := by kernel_rfl
theorem inf38 : (Tryd.prog.info? 38).map (fun i => (i.zero, i.size, i.bytes)) = some (some (.slice none 0 0), 1, 24) := by kernel_rfl
theorem inf39 : (Tryd.prog.info? 39).map (fun i => (i.zero, i.size, i.bytes)) = some (some (.slice none 0 0), 1, 24) := by kernel_rfl
theorem inf40 : (Tryd.prog.info? 40).map (fun i => (i.zero, i.size, i.bytes)) = some (some (.agg #[(.string ByteArray.empty), (.int .i64 0), (.int .i64 0), (.slice none 0 0), (.slice none 0 0)]), 5, 80) := by kernel_rfl
theorem inf41 : (Tryd.prog.info? 41).map (fun i => (i.zero, i.size, i.bytes)) = some (some (.agg #[(.string ByteArray.empty), (.int .i64 0), (.int .i64 0), (.slice none 0 0), (.slice none 0 0)]), 5, 80) := by kernel_rfl
theorem inf42 : (Tryd.prog.info? 42).map (fun i => (i.zero, i.size, i.bytes)) = some (some (.slice none 0 0), 1, 24) := by kernel_rfl
theorem inf43 : (Tryd.prog.info? 43).map (fun i => (i.zero, i.size, i.bytes)) = some (some (.agg #[(.string ByteArray.empty), (.slice none 0 0)]), 2, 40) := by kernel_rfl
theorem inf44 : (Tryd.prog.info? 44).map (fun i => (i.zero, i.size, i.bytes)) = some (some (.agg #[(.string ByteArray.empty), (.slice none 0 0)]), 2, 40) := by kernel_rfl
theorem inf45 : (Tryd.prog.info? 45).map (fun i => (i.zero, i.size, i.bytes)) = some (some (.slice none 0 0), 1, 24) := by kernel_rfl
theorem inf46 : (Tryd.prog.info? 46).map (fun i => (i.zero, i.size, i.bytes)) = some (some (.agg #[(.string ByteArray.empty), (.bool false), (.int .i64 0), (.slice none 0 0)]), 4, 56) := by kernel_rfl
theorem inf47 : (Tryd.prog.info? 47).map (fun i => (i.zero, i.size, i.bytes)) = some (some (.agg #[(.string ByteArray.empty), (.bool false), (.int .i64 0), (.slice none 0 0)]), 4, 56) := by kernel_rfl
theorem inf48 : (Tryd.prog.info? 48).map (fun i => (i.zero, i.size, i.bytes)) = some (some .nilFunc, 1, 8) := by kernel_rfl
theorem inf49 : (Tryd.prog.info? 49).map (fun i => (i.zero, i.size, i.bytes)) = some (some .nilFunc, 1, 8) := by kernel_rfl
theorem inf50 : (Tryd.prog.info? 50).map (fun i => (i.zero, i.size, i.bytes)) = some (some .nilFunc, 1, 8) := by kernel_rfl
theorem inf51 : (Tryd.prog.info? 51).map (fun i => (i.zero, i.size, i.bytes)) = some (some (.agg #[(.int .i64 0), (.string ByteArray.empty), (.string ByteArray.empty), (.string ByteArray.empty), (.int .i64 0), (.int .i64 0), (.int .i64 0)]), 7, 80) := by kernel_rfl
theorem inf52 : (Tryd.prog.info? 52).map (fun i => (i.zero, i.size, i.bytes)) = some (some (.agg #[(.int .i64 0), (.string ByteArray.empty), (.string ByteArray.empty), (.string ByteArray.empty), (.int .i64 0), (.int .i64 0), (.int .i64 0)]), 7, 80) := by kernel_rfl
theorem inf53 : (Tryd.prog.info? 53).map (fun i => (i.zero, i.size, i.bytes)) = some (some .nilFunc, 1, 8) := by kernel_rfl
theorem inf54 : (Tryd.prog.info? 54).map (fun i => (i.zero, i.size, i.bytes)) = some (some (.agg #[(.bool false), (.int .i64 0)]), 2, 16) := by kernel_rfl
theorem inf55 : (Tryd.prog.info? 55).map (fun i => (i.zero, i.size, i.bytes)) = some (some (.agg #[(.bool false), (.int .i64 0)]), 2, 16) := by kernel_rfl
theorem inf56 : (Tryd.prog.info? 56).map (fun i => (i.zero, i.size, i.bytes)) = some (some (.pointer none), 1, 8) := by kernel_rfl
theorem inf57 : (Tryd.prog.info? 57).map (fun i => (i.zero, i.size, i.bytes)) = some (some .nilFunc, 1, 8) := by kernel_rfl
theorem inf58 : (Tryd.prog.info? 58).map (fun i => (i.zero, i.size, i.bytes)) = some (some .nilFunc, 1, 8) := by kernel_rfl
theorem inf59 : (Tryd.prog.info? 59).map (fun i => (i.zero, i.size, i.bytes)) = some (some .nilFunc, 1, 8) := by kernel_rfl
theorem inf60 : (Tryd.prog.info? 60).map (fun i => (i.zero, i.size, i.bytes)) = some (some .nilFunc, 1, 8) := by kernel_rfl
theorem inf61 : (Tryd.prog.info? 61).map (fun i => (i.zero, i.size, i.bytes)) = some (some .nilFunc, 1, 8) := by kernel_rfl
theorem inf62 : (Tryd.prog.info? 62).map (fun i => (i.zero, i.size, i.bytes)) = some (some .nilFunc, 1, 8) := by kernel_rfl
theorem inf63 : (Tryd.prog.info? 63).map (fun i => (i.zero, i.size, i.bytes)) = some (some .nilFunc, 1, 8) := by kernel_rfl
theorem inf64 : (Tryd.prog.info? 64).map (fun i => (i.zero, i.size, i.bytes)) = some (some .nilFunc, 1, 8) := by kernel_rfl
theorem inf65 : (Tryd.prog.info? 65).map (fun i => (i.zero, i.size, i.bytes)) = some (some .nilFunc, 1, 8) := by kernel_rfl
theorem inf66 : (Tryd.prog.info? 66).map (fun i => (i.zero, i.size, i.bytes)) = some (some (.pointer none), 1, 8) := by kernel_rfl
theorem inf67 : (Tryd.prog.info? 67).map (fun i => (i.zero, i.size, i.bytes)) = some (some (.agg #[(.int .i64 0), (.slice none 0 0)]), 2, 32) := by kernel_rfl
theorem inf68 : (Tryd.prog.info? 68).map (fun i => (i.zero, i.size, i.bytes)) = some (some (.agg #[(.int .i64 0), (.slice none 0 0)]), 2, 32) := by kernel_rfl
theorem inf69 : (Tryd.prog.info? 69).map (fun i => (i.zero, i.size, i.bytes)) = some (some .nilFunc, 1, 8) := by kernel_rfl
theorem inf70 : (Tryd.prog.info? 70).map (fun i => (i.zero, i.size, i.bytes)) = some (some (.slice none 0 0), 1, 24) := by kernel_rfl
theorem inf71 : (Tryd.prog.info? 71).map (fun i => (i.zero, i.size, i.bytes)) = some (some .nilFunc, 1, 8) := by kernel_rfl
theorem inf72 : (Tryd.prog.info? 72).map (fun i => (i.zero, i.size, i.bytes)) = some (some .nilFunc, 1, 8) := by kernel_rfl
theorem inf73 : (Tryd.prog.info? 73).map (fun i => (i.zero, i.size, i.bytes)) = some (some (.agg #[(.string ByteArray.empty), (.int .i64 0)]), 2, 24) := by kernel_rfl
theorem inf74 : (Tryd.prog.info? 74).map (fun i => (i.zero, i.size, i.bytes)) = some (some (.agg #[(.string ByteArray.empty), (.int .i64 0)]), 2, 24) := by kernel_rfl
theorem inf75 : (Tryd.prog.info? 75).map (fun i => (i.zero, i.size, i.bytes)) = some (some .nilFunc, 1, 8) := by kernel_rfl
theorem inf76 : (Tryd.prog.info? 76).map (fun i => (i.zero, i.size, i.bytes)) = some (some .nilFunc, 1, 8) := by kernel_rfl
theorem inf77 : (Tryd.prog.info? 77).map (fun i => (i.zero, i.size, i.bytes)) = some (some .nilFunc, 1, 8) := by kernel_rfl
theorem inf78 : (Tryd.prog.info? 78).map (fun i => (i.zero, i.size, i.bytes)) = some (some .nilFunc, 1, 8) := by kernel_rfl
theorem inf79 : (Tryd.prog.info? 79).map (fun i => (i.zero, i.size, i.bytes)) = some (some .nilFunc, 1, 8) := by kernel_rfl
theorem inf80 : (Tryd.prog.info? 80).map (fun i => (i.zero, i.size, i.bytes)) = some (some .nilFunc, 1, 8) := by kernel_rfl
theorem inf82 : (Tryd.prog.info? 82).map (fun i => (i.zero, i.size, i.bytes)) = some (some .nilFunc, 1, 8) := by kernel_rfl
theorem inf83 : (Tryd.prog.info? 83).map (fun i => (i.zero, i.size, i.bytes)) = some (some .nilFunc, 1, 8) := by kernel_rfl
theorem inf84 : (Tryd.prog.info? 84).map (fun i => (i.zero, i.size, i.bytes)) = some (some (.pointer none), 1, 8) := by kernel_rfl
theorem inf85 : (Tryd.prog.info? 85).map (fun i => (i.zero, i.size, i.bytes)) = some (some (.int .u64 0), 1, 8) := by kernel_rfl
theorem inf86 : (Tryd.prog.info? 86).map (fun i => (i.zero, i.size, i.bytes)) = some (some (.agg #[(.pointer none), (.pointer none), (.int .u64 0)]), 3, 24) := by kernel_rfl
theorem inf87 : (Tryd.prog.info? 87).map (fun i => (i.zero, i.size, i.bytes)) = some (some (.agg #[(.pointer none), (.pointer none), (.int .u64 0)]), 3, 24) := by kernel_rfl
theorem inf88 : (Tryd.prog.info? 88).map (fun i => (i.zero, i.size, i.bytes)) = some (some .nilFunc, 1, 8) := by kernel_rfl
theorem inf89 : (Tryd.prog.info? 89).map (fun i => (i.zero, i.size, i.bytes)) = some (some .nilIface, 1, 16) := by kernel_rfl
theorem inf90 : (Tryd.prog.info? 90).map (fun i => (i.zero, i.size, i.bytes)) = some (some .nilIface, 1, 16) := by kernel_rfl
theorem inf91 : (Tryd.prog.info? 91).map (fun i => (i.zero, i.size, i.bytes)) = some (some .nilFunc, 1, 8) := by kernel_rfl
theorem inf93 : (Tryd.prog.info? 93).map (fun i => (i.zero, i.size, i.bytes)) = some (some .nilFunc, 1, 8) := by kernel_rfl
theorem inf94 : (Tryd.prog.info? 94).map (fun i => (i.zero, i.size, i.bytes)) = some (some .nilFunc, 1, 8) := by kernel_rfl
theorem inf95 : (Tryd.prog.info? 95).map (fun i => (i.zero, i.size, i.bytes)) = some (some .nilFunc, 1, 8) := by kernel_rfl
theorem inf96 : (Tryd.prog.info? 96).map (fun i => (i.zero, i.size, i.bytes)) = some (some .nilFunc, 1, 8) := by kernel_rfl
theorem inf97 : (Tryd.prog.info? 97).map (fun i => (i.zero, i.size, i.bytes)) = some (some .nilFunc, 1, 8) := by kernel_rfl
theorem inf98 : (Tryd.prog.info? 98).map (fun i => (i.zero, i.size, i.bytes)) = some (some .nilFunc, 1, 8) := by kernel_rfl
theorem inf99 : (Tryd.prog.info? 99).map (fun i => (i.zero, i.size, i.bytes)) = some (some .nilFunc, 1, 8) := by kernel_rfl
theorem inf100 : (Tryd.prog.info? 100).map (fun i => (i.zero, i.size, i.bytes)) = some (some .nilFunc, 1, 8) := by kernel_rfl
theorem inf101 : (Tryd.prog.info? 101).map (fun i => (i.zero, i.size, i.bytes)) = some (some .nilFunc, 1, 8) := by kernel_rfl
theorem inf102 : (Tryd.prog.info? 102).map (fun i => (i.zero, i.size, i.bytes)) = some (some .nilFunc, 1, 8) := by kernel_rfl
theorem inf103 : (Tryd.prog.info? 103).map (fun i => (i.zero, i.size, i.bytes)) = some (some .nilFunc, 1, 8) := by kernel_rfl
theorem inf104 : (Tryd.prog.info? 104).map (fun i => (i.zero, i.size, i.bytes)) = some (some .nilFunc, 1, 8) := by kernel_rfl
theorem inf105 : (Tryd.prog.info? 105).map (fun i => (i.zero, i.size, i.bytes)) = some (some .nilFunc, 1, 8) := by kernel_rfl
theorem inf106 : (Tryd.prog.info? 106).map (fun i => (i.zero, i.size, i.bytes)) = some (some .nilFunc, 1, 8) := by kernel_rfl
theorem inf107 : (Tryd.prog.info? 107).map (fun i => (i.zero, i.size, i.bytes)) = some (some (.agg #[(.pointer none)]), 1, 8) := by kernel_rfl
theorem inf108 : (Tryd.prog.info? 108).map (fun i => (i.zero, i.size, i.bytes)) = some (some (.agg #[(.pointer none)]), 1, 8) := by kernel_rfl
theorem inf109 : (Tryd.prog.info? 109).map (fun i => (i.zero, i.size, i.bytes)) = some (some (.pointer none), 1, 8) := by kernel_rfl
theorem inf110 : (Tryd.prog.info? 110).map (fun i => (i.zero, i.size, i.bytes)) = some (some .nilFunc, 1, 8) := by kernel_rfl
theorem inf111 : (Tryd.prog.info? 111).map (fun i => (i.zero, i.size, i.bytes)) = some (some .nilFunc, 1, 8) := by kernel_rfl
theorem inf112 : (Tryd.prog.info? 112).map (fun i => (i.zero, i.size, i.bytes)) = some (some .nilFunc, 1, 8) := by kernel_rfl
theorem inf113 : (Tryd.prog.info? 113).map (fun i => (i.zero, i.size, i.bytes)) = some (some .nilIface, 1, 16) := by kernel_rfl
theorem inf115 : (Tryd.prog.info? 115).map (fun i => (i.zero, i.size, i.bytes)) = some (some .nilFunc, 1, 8) := by kernel_rfl
theorem inf116 : (Tryd.prog.info? 116).map (fun i => (i.zero, i.size, i.bytes)) = some (some .nilIface, 1, 16) := by kernel_rfl
theorem inf117 : (Tryd.prog.info? 117).map (fun i => (i.zero, i.size, i.bytes)) = some (some .nilFunc, 1, 8) := by kernel_rfl
theorem inf118 : (Tryd.prog.info? 118).map (fun i => (i.zero, i.size, i.bytes)) = some (some .nilIface, 1, 16) := by kernel_rfl
theorem inf119 : (Tryd.prog.info? 119).map (fun i => (i.zero, i.size, i.bytes)) = some (some (.slice none 0 0), 1, 24) := by kernel_rfl
theorem inf120 : (Tryd.prog.info? 120).map (fun i => (i.zero, i.size, i.bytes)) = some (some .nilFunc, 1, 8) := by kernel_rfl
theorem inf121 : (Tryd.prog.info? 121).map (fun i => (i.zero, i.size, i.bytes)) = some (some .nilFunc, 1, 8) := by kernel_rfl
theorem inf122 : (Tryd.prog.info? 122).map (fun i => (i.zero, i.size, i.bytes)) = some (some .nilFunc, 1, 8) := by kernel_rfl
theorem inf123 : (Tryd.prog.info? 123).map (fun i => (i.zero, i.size, i.bytes)) = some (some .nilFunc, 1, 8) := by kernel_rfl
theorem inf124 : (Tryd.prog.info? 124).map (fun i => (i.zero, i.size, i.bytes)) = some (some .nilFunc, 1, 8) := by kernel_rfl
theorem inf125 : (Tryd.prog.info? 125).map (fun i => (i.zero, i.size, i.bytes)) = some (some .nilFunc, 1, 8) := by kernel_rfl
theorem inf126 : (Tryd.prog.info? 126).map (fun i => (i.zero, i.size, i.bytes)) = some (some .nilFunc, 1, 8) := by kernel_rfl
theorem inf127 : (Tryd.prog.info? 127).map (fun i => (i.zero, i.size, i.bytes)) = some (some .nilFunc, 1, 8) := by kernel_rfl
theorem inf128 : (Tryd.prog.info? 128).map (fun i => (i.zero, i.size, i.bytes)) = some (some .nilFunc, 1, 8) := by kernel_rfl
theorem inf130 : (Tryd.prog.info? 130).map (fun i => (i.zero, i.size, i.bytes)) = some (some .nilFunc, 1, 8) := by kernel_rfl
theorem inf131 : (Tryd.prog.info? 131).map (fun i => (i.zero, i.size, i.bytes)) = some (some .nilFunc, 1, 8) := by kernel_rfl
theorem inf132 : (Tryd.prog.info? 132).map (fun i => (i.zero, i.size, i.bytes)) = some (some (.slice none 0 0), 1, 24) := by kernel_rfl
theorem inf133 : (Tryd.prog.info? 133).map (fun i => (i.zero, i.size, i.bytes)) = some (some .nilFunc, 1, 8) := by kernel_rfl
theorem inf134 : (Tryd.prog.info? 134).map (fun i => (i.zero, i.size, i.bytes)) = some (some .nilFunc, 1, 8) := by kernel_rfl
theorem inf135 : (Tryd.prog.info? 135).map (fun i => (i.zero, i.size, i.bytes)) = some (some .nilFunc, 1, 8) := by kernel_rfl
theorem inf136 : (Tryd.prog.info? 136).map (fun i => (i.zero, i.size, i.bytes)) = some (some (.agg #[(.pointer none), (.pointer none), (.pointer none), (.string ByteArray.empty)]), 4, 40) := by kernel_rfl
theorem inf138 : (Tryd.prog.info? 138).map (fun i => (i.zero, i.size, i.bytes)) = some (some (.agg #[]), 0, 0) := by kernel_rfl
theorem inf139 : (Tryd.prog.info? 139).map (fun i => (i.zero, i.size, i.bytes)) = some (some (.agg #[]), 0, 0) := by kernel_rfl
theorem inf141 : (Tryd.prog.info? 141).map (fun i => (i.zero, i.size, i.bytes)) = some (some .nilFunc, 1, 8) := by kernel_rfl
theorem inf142 : (Tryd.prog.info? 142).map (fun i => (i.zero, i.size, i.bytes)) = some (some .nilFunc, 1, 8) := by kernel_rfl
theorem inf143 : (Tryd.prog.info? 143).map (fun i => (i.zero, i.size, i.bytes)) = some (some (.int .u32 0), 1, 4) := by kernel_rfl
theorem inf145 : (Tryd.prog.info? 145).map (fun i => (i.zero, i.size, i.bytes)) = some (some .nilFunc, 1, 8) := by kernel_rfl
theorem inf146 : (Tryd.prog.info? 146).map (fun i => (i.zero, i.size, i.bytes)) = some (some (.pointer none), 1, 8) := by kernel_rfl
theorem inf149 : (Tryd.prog.info? 149).map (fun i => (i.zero, i.size, i.bytes)) = some (some (.agg #[(.int .u64 0), (.int .u64 0), (.int .u32 0), (.int .u8 0), (.int .u8 0), (.int .u8 0), (.int .u8 0), .nilFunc, (.pointer none), (.int .i32 0), (.int .i32 0)]), 11, 48) := by kernel_rfl
theorem inf151 : (Tryd.prog.info? 151).map (fun i => (i.zero, i.size, i.bytes)) = some (some .nilFunc, 1, 8) := by kernel_rfl
theorem inf152 : (Tryd.prog.info? 152).map (fun i => (i.zero, i.size, i.bytes)) = some (some .nilFunc, 1, 8) := by kernel_rfl
theorem inf153 : (Tryd.prog.info? 153).map (fun i => (i.zero, i.size, i.bytes)) = some (some (.agg #[(.string ByteArray.empty), (.int .u8 0)]), 2, 24) := by kernel_rfl
theorem inf154 : (Tryd.prog.info? 154).map (fun i => (i.zero, i.size, i.bytes)) = some (some (.agg #[(.string ByteArray.empty), (.int .u8 0)]), 2, 24) := by kernel_rfl
theorem inf156 : (Tryd.prog.info? 156).map (fun i => (i.zero, i.size, i.bytes)) = some (some .nilFunc, 1, 8) := by kernel_rfl
theorem inf157 : (Tryd.prog.info? 157).map (fun i => (i.zero, i.size, i.bytes)) = some (some (.int .u16 0), 1, 2) := by kernel_rfl
theorem inf158 : (Tryd.prog.info? 158).map (fun i => (i.zero, i.size, i.bytes)) = some (some (.agg #[(.int .i32 0), (.int .u16 0), (.int .u16 0), (.int .u32 0), (.int .u32 0)]), 5, 16) := by kernel_rfl
theorem inf160 : (Tryd.prog.info? 160).map (fun i => (i.zero, i.size, i.bytes)) = some (some (.slice none 0 0), 1, 24) := by kernel_rfl
theorem inf162 : (Tryd.prog.info? 162).map (fun i => (i.zero, i.size, i.bytes)) = some (some (.agg #[(.int .i32 0), (.int .i32 0), (.int .i32 0), (.int .i32 0)]), 4, 16) := by kernel_rfl
theorem inf164 : (Tryd.prog.info? 164).map (fun i => (i.zero, i.size, i.bytes)) = some (some (.pointer none), 1, 8) := by kernel_rfl
instance : TZeroC Tryd.prog 1 [.nilFunc] := ⟨let ⟨i, a, b, _, _⟩ := info_of inf1; ⟨i, _, a, b, rfl⟩⟩
instance : TCell Tryd.prog 1 := ⟨⟨_, Tryd.underlying1, rfl⟩, let ⟨i, a, _, c, _⟩ := info_of inf1; ⟨i, a, c⟩⟩
instance : TZeroC Tryd.prog 2 [(.int .i64 0)] := ⟨let ⟨i, a, b, _, _⟩ := info_of inf2; ⟨i, _, a, b, rfl⟩⟩
instance : TCell Tryd.prog 2 := ⟨⟨_, Tryd.underlying2, rfl⟩, let ⟨i, a, _, c, _⟩ := info_of inf2; ⟨i, a, c⟩⟩
instance : TInt Tryd.prog 2 .i64 := ⟨Tryd.underlying2⟩
instance : TZeroC Tryd.prog 3 [(.int .i64 0)] := ⟨let ⟨i, a, b, _, _⟩ := info_of inf3; ⟨i, _, a, b, rfl⟩⟩
instance : TCell Tryd.prog 3 := ⟨⟨_, Tryd.underlying3, rfl⟩, let ⟨i, a, _, c, _⟩ := info_of inf3; ⟨i, a, c⟩⟩
instance : TInt Tryd.prog 3 .i64 := ⟨Tryd.underlying3⟩
instance : TZeroC Tryd.prog 4 [(.bool false)] := ⟨let ⟨i, a, b, _, _⟩ := info_of inf4; ⟨i, _, a, b, rfl⟩⟩
instance : TCell Tryd.prog 4 := ⟨⟨_, Tryd.underlying4, rfl⟩, let ⟨i, a, _, c, _⟩ := info_of inf4; ⟨i, a, c⟩⟩
instance : TBool Tryd.prog 4 := ⟨Tryd.underlying4⟩
instance : TZeroC Tryd.prog 5 [(.int .u8 0)] := ⟨let ⟨i, a, b, _, _⟩ := info_of inf5; ⟨i, _, a, b, rfl⟩⟩
instance : TCell Tryd.prog 5 := ⟨⟨_, Tryd.underlying5, rfl⟩, let ⟨i, a, _, c, _⟩ := info_of inf5; ⟨i, a, c⟩⟩
instance : TInt Tryd.prog 5 .u8 := ⟨Tryd.underlying5⟩
instance : TZeroC Tryd.prog 7 [(.int .i64 0), (.int .i64 0), (.bool false), (.int .u8 0)] := ⟨let ⟨i, a, b, _, _⟩ := info_of inf7; ⟨i, _, a, b, rfl⟩⟩
instance : TAgg Tryd.prog 7 4 := ⟨⟨_, Tryd.underlying7, rfl⟩, let ⟨i, a, _, c, _⟩ := info_of inf7; ⟨i, a, c⟩⟩
instance : TFld Tryd.prog 7 0 0 := ⟨let ⟨i, a, _, c, _⟩ := info_of inf2; ⟨_, _, i, Tryd.underlying7, rfl, rfl, a, by rw [c]; decide⟩⟩
instance : TFld Tryd.prog 7 1 1 := ⟨let ⟨i, a, _, c, _⟩ := info_of inf3; ⟨_, _, i, Tryd.underlying7, rfl, rfl, a, by rw [c]; decide⟩⟩
instance : TFld Tryd.prog 7 2 2 := ⟨let ⟨i, a, _, c, _⟩ := info_of inf4; ⟨_, _, i, Tryd.underlying7, rfl, rfl, a, by rw [c]; decide⟩⟩
instance : TFldV Tryd.prog 7 0 0 := ⟨⟨_, _, _, Tryd.underlying7, rfl, rfl, Tryd.underlying2, rfl⟩⟩
instance : TFldV Tryd.prog 7 1 1 := ⟨⟨_, _, _, Tryd.underlying7, rfl, rfl, Tryd.underlying3, rfl⟩⟩
instance : TFldV Tryd.prog 7 2 2 := ⟨⟨_, _, _, Tryd.underlying7, rfl, rfl, Tryd.underlying4, rfl⟩⟩
instance : TZeroC Tryd.prog 9 [(.string ByteArray.empty)] := ⟨let ⟨i, a, b, _, _⟩ := info_of inf9; ⟨i, _, a, b, rfl⟩⟩
instance : TCell Tryd.prog 9 := ⟨⟨_, Tryd.underlying9, rfl⟩, let ⟨i, a, _, c, _⟩ := info_of inf9; ⟨i, a, c⟩⟩
instance : TStr Tryd.prog 9 := ⟨Tryd.underlying9⟩
instance : TZeroC Tryd.prog 12 [(.int .u64 0)] := ⟨let ⟨i, a, b, _, _⟩ := info_of inf12; ⟨i, _, a, b, rfl⟩⟩
instance : TCell Tryd.prog 12 := ⟨⟨_, Tryd.underlying12, rfl⟩, let ⟨i, a, _, c, _⟩ := info_of inf12; ⟨i, a, c⟩⟩
instance : TInt Tryd.prog 12 .u64 := ⟨Tryd.underlying12⟩
instance : TZeroC Tryd.prog 13 [(.string ByteArray.empty), (.int .u64 0)] := ⟨let ⟨i, a, b, _, _⟩ := info_of inf13; ⟨i, _, a, b, rfl⟩⟩
instance : TAgg Tryd.prog 13 2 := ⟨⟨_, Tryd.underlying13, rfl⟩, let ⟨i, a, _, c, _⟩ := info_of inf13; ⟨i, a, c⟩⟩
instance : TFld Tryd.prog 13 0 0 := ⟨let ⟨i, a, _, c, _⟩ := info_of inf9; ⟨_, _, i, Tryd.underlying13, rfl, rfl, a, by rw [c]; decide⟩⟩
instance : TFld Tryd.prog 13 1 1 := ⟨let ⟨i, a, _, c, _⟩ := info_of inf12; ⟨_, _, i, Tryd.underlying13, rfl, rfl, a, by rw [c]; decide⟩⟩
instance : TFldV Tryd.prog 13 0 0 := ⟨⟨_, _, _, Tryd.underlying13, rfl, rfl, Tryd.underlying9, rfl⟩⟩
instance : TFldV Tryd.prog 13 1 1 := ⟨⟨_, _, _, Tryd.underlying13, rfl, rfl, Tryd.underlying12, rfl⟩⟩
instance : TStruct Tryd.prog 13 [(0, 1), (1, 1)] [(.string ByteArray.empty), (.int .u64 0)] := ⟨let ⟨i, a, b, _, _⟩ := info_of inf13; ⟨i, _, _, a, b, rfl, Tryd.underlying13, by kernel_rfl⟩⟩
instance : TZeroC Tryd.prog 18 [(.pointer none)] := ⟨let ⟨i, a, b, _, _⟩ := info_of inf18; ⟨i, _, a, b, rfl⟩⟩
instance : TAgg Tryd.prog 18 1 := ⟨⟨_, Tryd.underlying18, rfl⟩, let ⟨i, a, _, c, _⟩ := info_of inf18; ⟨i, a, c⟩⟩
instance : TZeroC Tryd.prog 20 [.nilIface] := ⟨let ⟨i, a, b, _, _⟩ := info_of inf20; ⟨i, _, a, b, rfl⟩⟩
instance : TCell Tryd.prog 20 := ⟨⟨_, Tryd.underlying20, rfl⟩, let ⟨i, a, _, c, _⟩ := info_of inf20; ⟨i, a, c⟩⟩
instance : TIfc Tryd.prog 20 := ⟨_, Tryd.underlying20⟩
instance : TZeroC Tryd.prog 21 [(.int .i32 0)] := ⟨let ⟨i, a, b, _, _⟩ := info_of inf21; ⟨i, _, a, b, rfl⟩⟩
instance : TCell Tryd.prog 21 := ⟨⟨_, Tryd.underlying21, rfl⟩, let ⟨i, a, _, c, _⟩ := info_of inf21; ⟨i, a, c⟩⟩
instance : TInt Tryd.prog 21 .i32 := ⟨Tryd.underlying21⟩
instance : TZeroC Tryd.prog 22 [(.slice none 0 0)] := ⟨let ⟨i, a, b, _, _⟩ := info_of inf22; ⟨i, _, a, b, rfl⟩⟩
instance : TCell Tryd.prog 22 := ⟨⟨_, Tryd.underlying22, rfl⟩, let ⟨i, a, _, c, _⟩ := info_of inf22; ⟨i, a, c⟩⟩
instance : TSlice Tryd.prog 22 41 5 := ⟨let ⟨i, a, _, c, _⟩ := info_of inf41; ⟨i, Tryd.underlying22, a, c⟩⟩
instance : TElem Tryd.prog 22 41 5 80 [(.string ByteArray.empty), (.int .i64 0), (.int .i64 0), (.slice none 0 0), (.slice none 0 0)] := ⟨let ⟨i, a, b, c, d⟩ := info_of inf41; ⟨i, _, Tryd.underlying22, a, c, d, b, rfl, rfl⟩⟩
instance : TZeroC Tryd.prog 23 [(.slice none 0 0)] := ⟨let ⟨i, a, b, _, _⟩ := info_of inf23; ⟨i, _, a, b, rfl⟩⟩
instance : TAgg Tryd.prog 23 1 := ⟨⟨_, Tryd.underlying23, rfl⟩, let ⟨i, a, _, c, _⟩ := info_of inf23; ⟨i, a, c⟩⟩
instance : TFld Tryd.prog 23 0 0 := ⟨let ⟨i, a, _, c, _⟩ := info_of inf22; ⟨_, _, i, Tryd.underlying23, rfl, rfl, a, by rw [c]; decide⟩⟩
instance : TFldV Tryd.prog 23 0 0 := ⟨⟨_, _, _, Tryd.underlying23, rfl, rfl, Tryd.underlying22, rfl⟩⟩
instance : TStruct Tryd.prog 23 [(0, 1)] [(.slice none 0 0)] := ⟨let ⟨i, a, b, _, _⟩ := info_of inf23; ⟨i, _, _, a, b, rfl, Tryd.underlying23, by kernel_rfl⟩⟩
instance : TZeroC Tryd.prog 24 [(.slice none 0 0)] := ⟨let ⟨i, a, b, _, _⟩ := info_of inf24; ⟨i, _, a, b, rfl⟩⟩
instance : TAgg Tryd.prog 24 1 := ⟨⟨_, Tryd.underlying24, rfl⟩, let ⟨i, a, _, c, _⟩ := info_of inf24; ⟨i, a, c⟩⟩
instance : TFld Tryd.prog 24 0 0 := ⟨let ⟨i, a, _, c, _⟩ := info_of inf22; ⟨_, _, i, Tryd.underlying24, rfl, rfl, a, by rw [c]; decide⟩⟩
instance : TFldV Tryd.prog 24 0 0 := ⟨⟨_, _, _, Tryd.underlying24, rfl, rfl, Tryd.underlying22, rfl⟩⟩
instance : TStruct Tryd.prog 24 [(0, 1)] [(.slice none 0 0)] := ⟨let ⟨i, a, b, _, _⟩ := info_of inf24; ⟨i, _, _, a, b, rfl, Tryd.underlying24, by kernel_rfl⟩⟩
instance : TZeroC Tryd.prog 25 [.nilFunc] := ⟨let ⟨i, a, b, _, _⟩ := info_of inf25; ⟨i, _, a, b, rfl⟩⟩
instance : TCell Tryd.prog 25 := ⟨⟨_, Tryd.underlying25, rfl⟩, let ⟨i, a, _, c, _⟩ := info_of inf25; ⟨i, a, c⟩⟩
instance : TZeroC Tryd.prog 26 [.nilIface] := ⟨let ⟨i, a, b, _, _⟩ := info_of inf26; ⟨i, _, a, b, rfl⟩⟩
instance : TCell Tryd.prog 26 := ⟨⟨_, Tryd.underlying26, rfl⟩, let ⟨i, a, _, c, _⟩ := info_of inf26; ⟨i, a, c⟩⟩
instance : TIfc Tryd.prog 26 := ⟨_, Tryd.underlying26⟩
instance : TZeroC Tryd.prog 27 [.nilIface] := ⟨let ⟨i, a, b, _, _⟩ := info_of inf27; ⟨i, _, a, b, rfl⟩⟩
instance : TCell Tryd.prog 27 := ⟨⟨_, Tryd.underlying27, rfl⟩, let ⟨i, a, _, c, _⟩ := info_of inf27; ⟨i, a, c⟩⟩
instance : TIfc Tryd.prog 27 := ⟨_, Tryd.underlying27⟩
instance : TZeroC Tryd.prog 28 [.nilFunc] := ⟨let ⟨i, a, b, _, _⟩ := info_of inf28; ⟨i, _, a, b, rfl⟩⟩
instance : TCell Tryd.prog 28 := ⟨⟨_, Tryd.underlying28, rfl⟩, let ⟨i, a, _, c, _⟩ := info_of inf28; ⟨i, a, c⟩⟩
instance : TZeroC Tryd.prog 29 [(.slice none 0 0)] := ⟨let ⟨i, a, b, _, _⟩ := info_of inf29; ⟨i, _, a, b, rfl⟩⟩
instance : TCell Tryd.prog 29 := ⟨⟨_, Tryd.underlying29, rfl⟩, let ⟨i, a, _, c, _⟩ := info_of inf29; ⟨i, a, c⟩⟩
instance : TSlice Tryd.prog 29 3 1 := ⟨let ⟨i, a, _, c, _⟩ := info_of inf3; ⟨i, Tryd.underlying29, a, c⟩⟩
instance : TElem Tryd.prog 29 3 1 8 [(.int .i64 0)] := ⟨let ⟨i, a, b, c, d⟩ := info_of inf3; ⟨i, _, Tryd.underlying29, a, c, d, b, rfl, rfl⟩⟩
instance : TZeroC Tryd.prog 30 [(.int .i64 0), (.slice none 0 0)] := ⟨let ⟨i, a, b, _, _⟩ := info_of inf30; ⟨i, _, a, b, rfl⟩⟩
instance : TAgg Tryd.prog 30 2 := ⟨⟨_, Tryd.underlying30, rfl⟩, let ⟨i, a, _, c, _⟩ := info_of inf30; ⟨i, a, c⟩⟩
instance : TFld Tryd.prog 30 0 0 := ⟨let ⟨i, a, _, c, _⟩ := info_of inf3; ⟨_, _, i, Tryd.underlying30, rfl, rfl, a, by rw [c]; decide⟩⟩
instance : TFld Tryd.prog 30 1 1 := ⟨let ⟨i, a, _, c, _⟩ := info_of inf29; ⟨_, _, i, Tryd.underlying30, rfl, rfl, a, by rw [c]; decide⟩⟩
instance : TFldV Tryd.prog 30 0 0 := ⟨⟨_, _, _, Tryd.underlying30, rfl, rfl, Tryd.underlying3, rfl⟩⟩
instance : TFldV Tryd.prog 30 1 1 := ⟨⟨_, _, _, Tryd.underlying30, rfl, rfl, Tryd.underlying29, rfl⟩⟩
instance : TStruct Tryd.prog 30 [(0, 1), (1, 1)] [(.int .i64 0), (.slice none 0 0)] := ⟨let ⟨i, a, b, _, _⟩ := info_of inf30; ⟨i, _, _, a, b, rfl, Tryd.underlying30, by kernel_rfl⟩⟩
instance : TZeroC Tryd.prog 31 [(.int .i64 0), (.slice none 0 0)] := ⟨let ⟨i, a, b, _, _⟩ := info_of inf31; ⟨i, _, a, b, rfl⟩⟩
instance : TAgg Tryd.prog 31 2 := ⟨⟨_, Tryd.underlying31, rfl⟩, let ⟨i, a, _, c, _⟩ := info_of inf31; ⟨i, a, c⟩⟩
instance : TFld Tryd.prog 31 0 0 := ⟨let ⟨i, a, _, c, _⟩ := info_of inf3; ⟨_, _, i, Tryd.underlying31, rfl, rfl, a, by rw [c]; decide⟩⟩
instance : TFld Tryd.prog 31 1 1 := ⟨let ⟨i, a, _, c, _⟩ := info_of inf29; ⟨_, _, i, Tryd.underlying31, rfl, rfl, a, by rw [c]; decide⟩⟩
instance : TFldV Tryd.prog 31 0 0 := ⟨⟨_, _, _, Tryd.underlying31, rfl, rfl, Tryd.underlying3, rfl⟩⟩
instance : TFldV Tryd.prog 31 1 1 := ⟨⟨_, _, _, Tryd.underlying31, rfl, rfl, Tryd.underlying29, rfl⟩⟩
instance : TStruct Tryd.prog 31 [(0, 1), (1, 1)] [(.int .i64 0), (.slice none 0 0)] := ⟨let ⟨i, a, b, _, _⟩ := info_of inf31; ⟨i, _, _, a, b, rfl, Tryd.underlying31, by kernel_rfl⟩⟩
instance : TZeroC Tryd.prog 32 [.nilFunc] := ⟨let ⟨i, a, b, _, _⟩ := info_of inf32; ⟨i, _, a, b, rfl⟩⟩
instance : TCell Tryd.prog 32 := ⟨⟨_, Tryd.underlying32, rfl⟩, let ⟨i, a, _, c, _⟩ := info_of inf32; ⟨i, a, c⟩⟩
instance : TZeroC Tryd.prog 33 [(.int .i64 0)] := ⟨let ⟨i, a, b, _, _⟩ := info_of inf33; ⟨i, _, a, b, rfl⟩⟩
instance : TCell Tryd.prog 33 := ⟨⟨_, Tryd.underlying33, rfl⟩, let ⟨i, a, _, c, _⟩ := info_of inf33; ⟨i, a, c⟩⟩
instance : TInt Tryd.prog 33 .i64 := ⟨Tryd.underlying33⟩
instance : TZeroC Tryd.prog 34 [.nilFunc] := ⟨let ⟨i, a, b, _, _⟩ := info_of inf34; ⟨i, _, a, b, rfl⟩⟩
instance : TCell Tryd.prog 34 := ⟨⟨_, Tryd.underlying34, rfl⟩, let ⟨i, a, _, c, _⟩ := info_of inf34; ⟨i, a, c⟩⟩
instance : TZeroC Tryd.prog 35 [.nilFunc] := ⟨let ⟨i, a, b, _, _⟩ := info_of inf35; ⟨i, _, a, b, rfl⟩⟩
instance : TCell Tryd.prog 35 := ⟨⟨_, Tryd.underlying35, rfl⟩, let ⟨i, a, _, c, _⟩ := info_of inf35; ⟨i, a, c⟩⟩
instance : TZeroC Tryd.prog 36 [.nilFunc] := ⟨let ⟨i, a, b, _, _⟩ := info_of inf36; ⟨i, _, a, b, rfl⟩⟩
instance : TCell Tryd.prog 36 := ⟨⟨_, Tryd.underlying36, rfl⟩, let ⟨i, a, _, c, _⟩ := info_of inf36; ⟨i, a, c⟩⟩
instance : TZeroC Tryd.prog 37 [.nilFunc] := ⟨let ⟨i, a, b, _, _⟩ := info_of inf37; ⟨i, _, a, b, rfl⟩⟩
instance : TCell Tryd.prog 37 := ⟨⟨_, Tryd.underlying37, rfl⟩, let ⟨i, a, _, c, _⟩ := info_of inf37; ⟨i, a, c⟩⟩
instance : TZeroC Tryd.prog 38 [(.slice none 0 0)] := ⟨let ⟨i, a, b, _, _⟩ := info_of inf38; ⟨i, _, a, b, rfl⟩⟩
instance : TCell Tryd.prog 38 := ⟨⟨_, Tryd.underlying38, rfl⟩, let ⟨i, a, _, c, _⟩ := info_of inf38; ⟨i, a, c⟩⟩
instance : TSlice Tryd.prog 38 74 2 := ⟨let ⟨i, a, _, c, _⟩ := info_of inf74; ⟨i, Tryd.underlying38, a, c⟩⟩
instance : TElem Tryd.prog 38 74 2 24 [(.string ByteArray.empty), (.int .i64 0)] := ⟨let ⟨i, a, b, c, d⟩ := info_of inf74; ⟨i, _, Tryd.underlying38, a, c, d, b, rfl, rfl⟩⟩
instance : TZeroC Tryd.prog 39 [(.slice none 0 0)] := ⟨let ⟨i, a, b, _, _⟩ := info_of inf39; ⟨i, _, a, b, rfl⟩⟩
instance : TCell Tryd.prog 39 := ⟨⟨_, Tryd.underlying39, rfl⟩, let ⟨i, a, _, c, _⟩ := info_of inf39; ⟨i, a, c⟩⟩
instance : TSlice Tryd.prog 39 44 2 := ⟨let ⟨i, a, _, c, _⟩ := info_of inf44; ⟨i, Tryd.underlying39, a, c⟩⟩
instance : TElem Tryd.prog 39 44 2 40 [(.string ByteArray.empty), (.slice none 0 0)] := ⟨let ⟨i, a, b, c, d⟩ := info_of inf44; ⟨i, _, Tryd.underlying39, a, c, d, b, rfl, rfl⟩⟩
instance : TZeroC Tryd.prog 40 [(.string ByteArray.empty), (.int .i64 0), (.int .i64 0), (.slice none 0 0), (.slice none 0 0)] := ⟨let ⟨i, a, b, _, _⟩ := info_of inf40; ⟨i, _, a, b, rfl⟩⟩
instance : TAgg Tryd.prog 40 5 := ⟨⟨_, Tryd.underlying40, rfl⟩, let ⟨i, a, _, c, _⟩ := info_of inf40; ⟨i, a, c⟩⟩
instance : TFld Tryd.prog 40 0 0 := ⟨let ⟨i, a, _, c, _⟩ := info_of inf9; ⟨_, _, i, Tryd.underlying40, rfl, rfl, a, by rw [c]; decide⟩⟩
instance : TFld Tryd.prog 40 1 1 := ⟨let ⟨i, a, _, c, _⟩ := info_of inf3; ⟨_, _, i, Tryd.underlying40, rfl, rfl, a, by rw [c]; decide⟩⟩
instance : TFld Tryd.prog 40 2 2 := ⟨let ⟨i, a, _, c, _⟩ := info_of inf3; ⟨_, _, i, Tryd.underlying40, rfl, rfl, a, by rw [c]; decide⟩⟩
instance : TFld Tryd.prog 40 3 3 := ⟨let ⟨i, a, _, c, _⟩ := info_of inf38; ⟨_, _, i, Tryd.underlying40, rfl, rfl, a, by rw [c]; decide⟩⟩
instance : TFld Tryd.prog 40 4 4 := ⟨let ⟨i, a, _, c, _⟩ := info_of inf39; ⟨_, _, i, Tryd.underlying40, rfl, rfl, a, by rw [c]; decide⟩⟩
instance : TFldV Tryd.prog 40 0 0 := ⟨⟨_, _, _, Tryd.underlying40, rfl, rfl, Tryd.underlying9, rfl⟩⟩
instance : TFldV Tryd.prog 40 1 1 := ⟨⟨_, _, _, Tryd.underlying40, rfl, rfl, Tryd.underlying3, rfl⟩⟩
instance : TFldV Tryd.prog 40 2 2 := ⟨⟨_, _, _, Tryd.underlying40, rfl, rfl, Tryd.underlying3, rfl⟩⟩
instance : TFldV Tryd.prog 40 3 3 := ⟨⟨_, _, _, Tryd.underlying40, rfl, rfl, Tryd.underlying38, rfl⟩⟩
instance : TFldV Tryd.prog 40 4 4 := ⟨⟨_, _, _, Tryd.underlying40, rfl, rfl, Tryd.underlying39, rfl⟩⟩
instance : TStruct Tryd.prog 40 [(0, 1), (1, 1), (2, 1), (3, 1), (4, 1)] [(.string ByteArray.empty), (.int .i64 0), (.int .i64 0), (.slice none 0 0), (.slice none 0 0)] := ⟨let ⟨i, a, b, _, _⟩ := info_of inf40; ⟨i, _, _, a, b, rfl, Tryd.underlying40, by kernel_rfl⟩⟩
instance : TZeroC Tryd.prog 41 [(.string ByteArray.empty), (.int .i64 0), (.int .i64 0), (.slice none 0 0), (.slice none 0 0)] := ⟨let ⟨i, a, b, _, _⟩ := info_of inf41; ⟨i, _, a, b, rfl⟩⟩
instance : TAgg Tryd.prog 41 5 := ⟨⟨_, Tryd.underlying41, rfl⟩, let ⟨i, a, _, c, _⟩ := info_of inf41; ⟨i, a, c⟩⟩
instance : TFld Tryd.prog 41 0 0 := ⟨let ⟨i, a, _, c, _⟩ := info_of inf9; ⟨_, _, i, Tryd.underlying41, rfl, rfl, a, by rw [c]; decide⟩⟩
instance : TFld Tryd.prog 41 1 1 := ⟨let ⟨i, a, _, c, _⟩ := info_of inf3; ⟨_, _, i, Tryd.underlying41, rfl, rfl, a, by rw [c]; decide⟩⟩
instance : TFld Tryd.prog 41 2 2 := ⟨let ⟨i, a, _, c, _⟩ := info_of inf3; ⟨_, _, i, Tryd.underlying41, rfl, rfl, a, by rw [c]; decide⟩⟩
instance : TFld Tryd.prog 41 3 3 := ⟨let ⟨i, a, _, c, _⟩ := info_of inf38; ⟨_, _, i, Tryd.underlying41, rfl, rfl, a, by rw [c]; decide⟩⟩
instance : TFld Tryd.prog 41 4 4 := ⟨let ⟨i, a, _, c, _⟩ := info_of inf39; ⟨_, _, i, Tryd.underlying41, rfl, rfl, a, by rw [c]; decide⟩⟩
instance : TFldV Tryd.prog 41 0 0 := ⟨⟨_, _, _, Tryd.underlying41, rfl, rfl, Tryd.underlying9, rfl⟩⟩
instance : TFldV Tryd.prog 41 1 1 := ⟨⟨_, _, _, Tryd.underlying41, rfl, rfl, Tryd.underlying3, rfl⟩⟩
instance : TFldV Tryd.prog 41 2 2 := ⟨⟨_, _, _, Tryd.underlying41, rfl, rfl, Tryd.underlying3, rfl⟩⟩
instance : TFldV Tryd.prog 41 3 3 := ⟨⟨_, _, _, Tryd.underlying41, rfl, rfl, Tryd.underlying38, rfl⟩⟩
instance : TFldV Tryd.prog 41 4 4 := ⟨⟨_, _, _, Tryd.underlying41, rfl, rfl, Tryd.underlying39, rfl⟩⟩
instance : TStruct Tryd.prog 41 [(0, 1), (1, 1), (2, 1), (3, 1), (4, 1)] [(.string ByteArray.empty), (.int .i64 0), (.int .i64 0), (.slice none 0 0), (.slice none 0 0)] := ⟨let ⟨i, a, b, _, _⟩ := info_of inf41; ⟨i, _, _, a, b, rfl, Tryd.underlying41, by kernel_rfl⟩⟩
instance : TZeroC Tryd.prog 42 [(.slice none 0 0)] := ⟨let ⟨i, a, b, _, _⟩ := info_of inf42; ⟨i, _, a, b, rfl⟩⟩
instance : TCell Tryd.prog 42 := ⟨⟨_, Tryd.underlying42, rfl⟩, let ⟨i, a, _, c, _⟩ := info_of inf42; ⟨i, a, c⟩⟩
instance : TSlice Tryd.prog 42 47 4 := ⟨let ⟨i, a, _, c, _⟩ := info_of inf47; ⟨i, Tryd.underlying42, a, c⟩⟩
instance : TElem Tryd.prog 42 47 4 56 [(.string ByteArray.empty), (.bool false), (.int .i64 0), (.slice none 0 0)] := ⟨let ⟨i, a, b, c, d⟩ := info_of inf47; ⟨i, _, Tryd.underlying42, a, c, d, b, rfl, rfl⟩⟩
instance : TZeroC Tryd.prog 43 [(.string ByteArray.empty), (.slice none 0 0)] := ⟨let ⟨i, a, b, _, _⟩ := info_of inf43; ⟨i, _, a, b, rfl⟩⟩
instance : TAgg Tryd.prog 43 2 := ⟨⟨_, Tryd.underlying43, rfl⟩, let ⟨i, a, _, c, _⟩ := info_of inf43; ⟨i, a, c⟩⟩
instance : TFld Tryd.prog 43 0 0 := ⟨let ⟨i, a, _, c, _⟩ := info_of inf9; ⟨_, _, i, Tryd.underlying43, rfl, rfl, a, by rw [c]; decide⟩⟩
instance : TFld Tryd.prog 43 1 1 := ⟨let ⟨i, a, _, c, _⟩ := info_of inf42; ⟨_, _, i, Tryd.underlying43, rfl, rfl, a, by rw [c]; decide⟩⟩
instance : TFldV Tryd.prog 43 0 0 := ⟨⟨_, _, _, Tryd.underlying43, rfl, rfl, Tryd.underlying9, rfl⟩⟩
instance : TFldV Tryd.prog 43 1 1 := ⟨⟨_, _, _, Tryd.underlying43, rfl, rfl, Tryd.underlying42, rfl⟩⟩
instance : TStruct Tryd.prog 43 [(0, 1), (1, 1)] [(.string ByteArray.empty), (.slice none 0 0)] := ⟨let ⟨i, a, b, _, _⟩ := info_of inf43; ⟨i, _, _, a, b, rfl, Tryd.underlying43, by kernel_rfl⟩⟩
instance : TZeroC Tryd.prog 44 [(.string ByteArray.empty), (.slice none 0 0)] := ⟨let ⟨i, a, b, _, _⟩ := info_of inf44; ⟨i, _, a, b, rfl⟩⟩
instance : TAgg Tryd.prog 44 2 := ⟨⟨_, Tryd.underlying44, rfl⟩, let ⟨i, a, _, c, _⟩ := info_of inf44; ⟨i, a, c⟩⟩
instance : TFld Tryd.prog 44 0 0 := ⟨let ⟨i, a, _, c, _⟩ := info_of inf9; ⟨_, _, i, Tryd.underlying44, rfl, rfl, a, by rw [c]; decide⟩⟩
instance : TFld Tryd.prog 44 1 1 := ⟨let ⟨i, a, _, c, _⟩ := info_of inf42; ⟨_, _, i, Tryd.underlying44, rfl, rfl, a, by rw [c]; decide⟩⟩
instance : TFldV Tryd.prog 44 0 0 := ⟨⟨_, _, _, Tryd.underlying44, rfl, rfl, Tryd.underlying9, rfl⟩⟩
instance : TFldV Tryd.prog 44 1 1 := ⟨⟨_, _, _, Tryd.underlying44, rfl, rfl, Tryd.underlying42, rfl⟩⟩
instance : TStruct Tryd.prog 44 [(0, 1), (1, 1)] [(.string ByteArray.empty), (.slice none 0 0)] := ⟨let ⟨i, a, b, _, _⟩ := info_of inf44; ⟨i, _, _, a, b, rfl, Tryd.underlying44, by kernel_rfl⟩⟩
instance : TZeroC Tryd.prog 45 [(.slice none 0 0)] := ⟨let ⟨i, a, b, _, _⟩ := info_of inf45; ⟨i, _, a, b, rfl⟩⟩
instance : TCell Tryd.prog 45 := ⟨⟨_, Tryd.underlying45, rfl⟩, let ⟨i, a, _, c, _⟩ := info_of inf45; ⟨i, a, c⟩⟩
instance : TSlice Tryd.prog 45 52 7 := ⟨let ⟨i, a, _, c, _⟩ := info_of inf52; ⟨i, Tryd.underlying45, a, c⟩⟩
instance : TElem Tryd.prog 45 52 7 80 [(.int .i64 0), (.string ByteArray.empty), (.string ByteArray.empty), (.string ByteArray.empty), (.int .i64 0), (.int .i64 0), (.int .i64 0)] := ⟨let ⟨i, a, b, c, d⟩ := info_of inf52; ⟨i, _, Tryd.underlying45, a, c, d, b, rfl, rfl⟩⟩
instance : TZeroC Tryd.prog 46 [(.string ByteArray.empty), (.bool false), (.int .i64 0), (.slice none 0 0)] := ⟨let ⟨i, a, b, _, _⟩ := info_of inf46; ⟨i, _, a, b, rfl⟩⟩
instance : TAgg Tryd.prog 46 4 := ⟨⟨_, Tryd.underlying46, rfl⟩, let ⟨i, a, _, c, _⟩ := info_of inf46; ⟨i, a, c⟩⟩
instance : TFld Tryd.prog 46 0 0 := ⟨let ⟨i, a, _, c, _⟩ := info_of inf9; ⟨_, _, i, Tryd.underlying46, rfl, rfl, a, by rw [c]; decide⟩⟩
instance : TFld Tryd.prog 46 1 1 := ⟨let ⟨i, a, _, c, _⟩ := info_of inf4; ⟨_, _, i, Tryd.underlying46, rfl, rfl, a, by rw [c]; decide⟩⟩
instance : TFld Tryd.prog 46 2 2 := ⟨let ⟨i, a, _, c, _⟩ := info_of inf3; ⟨_, _, i, Tryd.underlying46, rfl, rfl, a, by rw [c]; decide⟩⟩
instance : TFld Tryd.prog 46 3 3 := ⟨let ⟨i, a, _, c, _⟩ := info_of inf45; ⟨_, _, i, Tryd.underlying46, rfl, rfl, a, by rw [c]; decide⟩⟩
instance : TFldV Tryd.prog 46 0 0 := ⟨⟨_, _, _, Tryd.underlying46, rfl, rfl, Tryd.underlying9, rfl⟩⟩
instance : TFldV Tryd.prog 46 1 1 := ⟨⟨_, _, _, Tryd.underlying46, rfl, rfl, Tryd.underlying4, rfl⟩⟩
instance : TFldV Tryd.prog 46 2 2 := ⟨⟨_, _, _, Tryd.underlying46, rfl, rfl, Tryd.underlying3, rfl⟩⟩
instance : TFldV Tryd.prog 46 3 3 := ⟨⟨_, _, _, Tryd.underlying46, rfl, rfl, Tryd.underlying45, rfl⟩⟩
instance : TStruct Tryd.prog 46 [(0, 1), (1, 1), (2, 1), (3, 1)] [(.string ByteArray.empty), (.bool false), (.int .i64 0), (.slice none 0 0)] := ⟨let ⟨i, a, b, _, _⟩ := info_of inf46; ⟨i, _, _, a, b, rfl, Tryd.underlying46, by kernel_rfl⟩⟩
instance : TZeroC Tryd.prog 47 [(.string ByteArray.empty), (.bool false), (.int .i64 0), (.slice none 0 0)] := ⟨let ⟨i, a, b, _, _⟩ := info_of inf47; ⟨i, _, a, b, rfl⟩⟩
instance : TAgg Tryd.prog 47 4 := ⟨⟨_, Tryd.underlying47, rfl⟩, let ⟨i, a, _, c, _⟩ := info_of inf47; ⟨i, a, c⟩⟩
instance : TFld Tryd.prog 47 0 0 := ⟨let ⟨i, a, _, c, _⟩ := info_of inf9; ⟨_, _, i, Tryd.underlying47, rfl, rfl, a, by rw [c]; decide⟩⟩
instance : TFld Tryd.prog 47 1 1 := ⟨let ⟨i, a, _, c, _⟩ := info_of inf4; ⟨_, _, i, Tryd.underlying47, rfl, rfl, a, by rw [c]; decide⟩⟩
instance : TFld Tryd.prog 47 2 2 := ⟨let ⟨i, a, _, c, _⟩ := info_of inf3; ⟨_, _, i, Tryd.underlying47, rfl, rfl, a, by rw [c]; decide⟩⟩
instance : TFld Tryd.prog 47 3 3 := ⟨let ⟨i, a, _, c, _⟩ := info_of inf45; ⟨_, _, i, Tryd.underlying47, rfl, rfl, a, by rw [c]; decide⟩⟩
instance : TFldV Tryd.prog 47 0 0 := ⟨⟨_, _, _, Tryd.underlying47, rfl, rfl, Tryd.underlying9, rfl⟩⟩
instance : TFldV Tryd.prog 47 1 1 := ⟨⟨_, _, _, Tryd.underlying47, rfl, rfl, Tryd.underlying4, rfl⟩⟩
instance : TFldV Tryd.prog 47 2 2 := ⟨⟨_, _, _, Tryd.underlying47, rfl, rfl, Tryd.underlying3, rfl⟩⟩
instance : TFldV Tryd.prog 47 3 3 := ⟨⟨_, _, _, Tryd.underlying47, rfl, rfl, Tryd.underlying45, rfl⟩⟩
instance : TStruct Tryd.prog 47 [(0, 1), (1, 1), (2, 1), (3, 1)] [(.string ByteArray.empty), (.bool false), (.int .i64 0), (.slice none 0 0)] := ⟨let ⟨i, a, b, _, _⟩ := info_of inf47; ⟨i, _, _, a, b, rfl, Tryd.underlying47, by kernel_rfl⟩⟩
instance : TZeroC Tryd.prog 48 [.nilFunc] := ⟨let ⟨i, a, b, _, _⟩ := info_of inf48; ⟨i, _, a, b, rfl⟩⟩
instance : TCell Tryd.prog 48 := ⟨⟨_, Tryd.underlying48, rfl⟩, let ⟨i, a, _, c, _⟩ := info_of inf48; ⟨i, a, c⟩⟩
instance : TZeroC Tryd.prog 49 [.nilFunc] := ⟨let ⟨i, a, b, _, _⟩ := info_of inf49; ⟨i, _, a, b, rfl⟩⟩
instance : TCell Tryd.prog 49 := ⟨⟨_, Tryd.underlying49, rfl⟩, let ⟨i, a, _, c, _⟩ := info_of inf49; ⟨i, a, c⟩⟩
instance : TZeroC Tryd.prog 50 [.nilFunc] := ⟨let ⟨i, a, b, _, _⟩ := info_of inf50; ⟨i, _, a, b, rfl⟩⟩
instance : TCell Tryd.prog 50 := ⟨⟨_, Tryd.underlying50, rfl⟩, let ⟨i, a, _, c, _⟩ := info_of inf50; ⟨i, a, c⟩⟩
instance : TZeroC Tryd.prog 51 [(.int .i64 0), (.string ByteArray.empty), (.string ByteArray.empty), (.string ByteArray.empty), (.int .i64 0), (.int .i64 0), (.int .i64 0)] := ⟨let ⟨i, a, b, _, _⟩ := info_of inf51; ⟨i, _, a, b, rfl⟩⟩
instance : TAgg Tryd.prog 51 7 := ⟨⟨_, Tryd.underlying51, rfl⟩, let ⟨i, a, _, c, _⟩ := info_of inf51; ⟨i, a, c⟩⟩
instance : TFld Tryd.prog 51 0 0 := ⟨let ⟨i, a, _, c, _⟩ := info_of inf3; ⟨_, _, i, Tryd.underlying51, rfl, rfl, a, by rw [c]; decide⟩⟩
instance : TFld Tryd.prog 51 1 1 := ⟨let ⟨i, a, _, c, _⟩ := info_of inf9; ⟨_, _, i, Tryd.underlying51, rfl, rfl, a, by rw [c]; decide⟩⟩
instance : TFld Tryd.prog 51 2 2 := ⟨let ⟨i, a, _, c, _⟩ := info_of inf9; ⟨_, _, i, Tryd.underlying51, rfl, rfl, a, by rw [c]; decide⟩⟩
instance : TFld Tryd.prog 51 3 3 := ⟨let ⟨i, a, _, c, _⟩ := info_of inf9; ⟨_, _, i, Tryd.underlying51, rfl, rfl, a, by rw [c]; decide⟩⟩
instance : TFld Tryd.prog 51 4 4 := ⟨let ⟨i, a, _, c, _⟩ := info_of inf3; ⟨_, _, i, Tryd.underlying51, rfl, rfl, a, by rw [c]; decide⟩⟩
instance : TFld Tryd.prog 51 5 5 := ⟨let ⟨i, a, _, c, _⟩ := info_of inf3; ⟨_, _, i, Tryd.underlying51, rfl, rfl, a, by rw [c]; decide⟩⟩
instance : TFld Tryd.prog 51 6 6 := ⟨let ⟨i, a, _, c, _⟩ := info_of inf3; ⟨_, _, i, Tryd.underlying51, rfl, rfl, a, by rw [c]; decide⟩⟩
instance : TFldV Tryd.prog 51 0 0 := ⟨⟨_, _, _, Tryd.underlying51, rfl, rfl, Tryd.underlying3, rfl⟩⟩
instance : TFldV Tryd.prog 51 1 1 := ⟨⟨_, _, _, Tryd.underlying51, rfl, rfl, Tryd.underlying9, rfl⟩⟩
instance : TFldV Tryd.prog 51 2 2 := ⟨⟨_, _, _, Tryd.underlying51, rfl, rfl, Tryd.underlying9, rfl⟩⟩
instance : TFldV Tryd.prog 51 3 3 := ⟨⟨_, _, _, Tryd.underlying51, rfl, rfl, Tryd.underlying9, rfl⟩⟩
instance : TFldV Tryd.prog 51 4 4 := ⟨⟨_, _, _, Tryd.underlying51, rfl, rfl, Tryd.underlying3, rfl⟩⟩
instance : TFldV Tryd.prog 51 5 5 := ⟨⟨_, _, _, Tryd.underlying51, rfl, rfl, Tryd.underlying3, rfl⟩⟩
instance : TFldV Tryd.prog 51 6 6 := ⟨⟨_, _, _, Tryd.underlying51, rfl, rfl, Tryd.underlying3, rfl⟩⟩
instance : TStruct Tryd.prog 51 [(0, 1), (1, 1), (2, 1), (3, 1), (4, 1), (5, 1), (6, 1)] [(.int .i64 0), (.string ByteArray.empty), (.string ByteArray.empty), (.string ByteArray.empty), (.int .i64 0), (.int .i64 0), (.int .i64 0)] := ⟨let ⟨i, a, b, _, _⟩ := info_of inf51; ⟨i, _, _, a, b, rfl, Tryd.underlying51, by kernel_rfl⟩⟩
instance : TZeroC Tryd.prog 52 [(.int .i64 0), (.string ByteArray.empty), (.string ByteArray.empty), (.string ByteArray.empty), (.int .i64 0), (.int .i64 0), (.int .i64 0)] := ⟨let ⟨i, a, b, _, _⟩ := info_of inf52; ⟨i, _, a, b, rfl⟩⟩
instance : TAgg Tryd.prog 52 7 := ⟨⟨_, Tryd.underlying52, rfl⟩, let ⟨i, a, _, c, _⟩ := info_of inf52; ⟨i, a, c⟩⟩
instance : TFld Tryd.prog 52 0 0 := ⟨let ⟨i, a, _, c, _⟩ := info_of inf3; ⟨_, _, i, Tryd.underlying52, rfl, rfl, a, by rw [c]; decide⟩⟩
instance : TFld Tryd.prog 52 1 1 := ⟨let ⟨i, a, _, c, _⟩ := info_of inf9; ⟨_, _, i, Tryd.underlying52, rfl, rfl, a, by rw [c]; decide⟩⟩
instance : TFld Tryd.prog 52 2 2 := ⟨let ⟨i, a, _, c, _⟩ := info_of inf9; ⟨_, _, i, Tryd.underlying52, rfl, rfl, a, by rw [c]; decide⟩⟩
instance : TFld Tryd.prog 52 3 3 := ⟨let ⟨i, a, _, c, _⟩ := info_of inf9; ⟨_, _, i, Tryd.underlying52, rfl, rfl, a, by rw [c]; decide⟩⟩
instance : TFld Tryd.prog 52 4 4 := ⟨let ⟨i, a, _, c, _⟩ := info_of inf3; ⟨_, _, i, Tryd.underlying52, rfl, rfl, a, by rw [c]; decide⟩⟩
instance : TFld Tryd.prog 52 5 5 := ⟨let ⟨i, a, _, c, _⟩ := info_of inf3; ⟨_, _, i, Tryd.underlying52, rfl, rfl, a, by rw [c]; decide⟩⟩
instance : TFld Tryd.prog 52 6 6 := ⟨let ⟨i, a, _, c, _⟩ := info_of inf3; ⟨_, _, i, Tryd.underlying52, rfl, rfl, a, by rw [c]; decide⟩⟩
instance : TFldV Tryd.prog 52 0 0 := ⟨⟨_, _, _, Tryd.underlying52, rfl, rfl, Tryd.underlying3, rfl⟩⟩
instance : TFldV Tryd.prog 52 1 1 := ⟨⟨_, _, _, Tryd.underlying52, rfl, rfl, Tryd.underlying9, rfl⟩⟩
instance : TFldV Tryd.prog 52 2 2 := ⟨⟨_, _, _, Tryd.underlying52, rfl, rfl, Tryd.underlying9, rfl⟩⟩
instance : TFldV Tryd.prog 52 3 3 := ⟨⟨_, _, _, Tryd.underlying52, rfl, rfl, Tryd.underlying9, rfl⟩⟩
instance : TFldV Tryd.prog 52 4 4 := ⟨⟨_, _, _, Tryd.underlying52, rfl, rfl, Tryd.underlying3, rfl⟩⟩
instance : TFldV Tryd.prog 52 5 5 := ⟨⟨_, _, _, Tryd.underlying52, rfl, rfl, Tryd.underlying3, rfl⟩⟩
instance : TFldV Tryd.prog 52 6 6 := ⟨⟨_, _, _, Tryd.underlying52, rfl, rfl, Tryd.underlying3, rfl⟩⟩
instance : TFlat Tryd.prog 52 [.int .i64, .str, .str, .str, .int .i64, .int .i64, .int .i64] := ⟨⟨_, Tryd.underlying52, by kernel_rfl⟩, by kernel_rfl, by kernel_rfl⟩
instance : TStruct Tryd.prog 52 [(0, 1), (1, 1), (2, 1), (3, 1), (4, 1), (5, 1), (6, 1)] [(.int .i64 0), (.string ByteArray.empty), (.string ByteArray.empty), (.string ByteArray.empty), (.int .i64 0), (.int .i64 0), (.int .i64 0)] := ⟨let ⟨i, a, b, _, _⟩ := info_of inf52; ⟨i, _, _, a, b, rfl, Tryd.underlying52, by kernel_rfl⟩⟩
instance : TZeroC Tryd.prog 53 [.nilFunc] := ⟨let ⟨i, a, b, _, _⟩ := info_of inf53; ⟨i, _, a, b, rfl⟩⟩
instance : TCell Tryd.prog 53 := ⟨⟨_, Tryd.underlying53, rfl⟩, let ⟨i, a, _, c, _⟩ := info_of inf53; ⟨i, a, c⟩⟩
instance : TZeroC Tryd.prog 54 [(.bool false), (.int .i64 0)] := ⟨let ⟨i, a, b, _, _⟩ := info_of inf54; ⟨i, _, a, b, rfl⟩⟩
instance : TAgg Tryd.prog 54 2 := ⟨⟨_, Tryd.underlying54, rfl⟩, let ⟨i, a, _, c, _⟩ := info_of inf54; ⟨i, a, c⟩⟩
instance : TFld Tryd.prog 54 0 0 := ⟨let ⟨i, a, _, c, _⟩ := info_of inf4; ⟨_, _, i, Tryd.underlying54, rfl, rfl, a, by rw [c]; decide⟩⟩
instance : TFld Tryd.prog 54 1 1 := ⟨let ⟨i, a, _, c, _⟩ := info_of inf33; ⟨_, _, i, Tryd.underlying54, rfl, rfl, a, by rw [c]; decide⟩⟩
instance : TFldV Tryd.prog 54 0 0 := ⟨⟨_, _, _, Tryd.underlying54, rfl, rfl, Tryd.underlying4, rfl⟩⟩
instance : TFldV Tryd.prog 54 1 1 := ⟨⟨_, _, _, Tryd.underlying54, rfl, rfl, Tryd.underlying33, rfl⟩⟩
instance : TStruct Tryd.prog 54 [(0, 1), (1, 1)] [(.bool false), (.int .i64 0)] := ⟨let ⟨i, a, b, _, _⟩ := info_of inf54; ⟨i, _, _, a, b, rfl, Tryd.underlying54, by kernel_rfl⟩⟩
instance : TZeroC Tryd.prog 55 [(.bool false), (.int .i64 0)] := ⟨let ⟨i, a, b, _, _⟩ := info_of inf55; ⟨i, _, a, b, rfl⟩⟩
instance : TAgg Tryd.prog 55 2 := ⟨⟨_, Tryd.underlying55, rfl⟩, let ⟨i, a, _, c, _⟩ := info_of inf55; ⟨i, a, c⟩⟩
instance : TFld Tryd.prog 55 0 0 := ⟨let ⟨i, a, _, c, _⟩ := info_of inf4; ⟨_, _, i, Tryd.underlying55, rfl, rfl, a, by rw [c]; decide⟩⟩
instance : TFld Tryd.prog 55 1 1 := ⟨let ⟨i, a, _, c, _⟩ := info_of inf33; ⟨_, _, i, Tryd.underlying55, rfl, rfl, a, by rw [c]; decide⟩⟩
instance : TFldV Tryd.prog 55 0 0 := ⟨⟨_, _, _, Tryd.underlying55, rfl, rfl, Tryd.underlying4, rfl⟩⟩
instance : TFldV Tryd.prog 55 1 1 := ⟨⟨_, _, _, Tryd.underlying55, rfl, rfl, Tryd.underlying33, rfl⟩⟩
instance : TFlat Tryd.prog 55 [.bool, .int .i64] := ⟨⟨_, Tryd.underlying55, by kernel_rfl⟩, by kernel_rfl, by kernel_rfl⟩
instance : TStruct Tryd.prog 55 [(0, 1), (1, 1)] [(.bool false), (.int .i64 0)] := ⟨let ⟨i, a, b, _, _⟩ := info_of inf55; ⟨i, _, _, a, b, rfl, Tryd.underlying55, by kernel_rfl⟩⟩
instance : TZeroC Tryd.prog 56 [(.pointer none)] := ⟨let ⟨i, a, b, _, _⟩ := info_of inf56; ⟨i, _, a, b, rfl⟩⟩
instance : TCell Tryd.prog 56 := ⟨⟨_, Tryd.underlying56, rfl⟩, let ⟨i, a, _, c, _⟩ := info_of inf56; ⟨i, a, c⟩⟩
instance : TPtr Tryd.prog 56 := ⟨_, Tryd.underlying56⟩
instance : TZeroC Tryd.prog 57 [.nilFunc] := ⟨let ⟨i, a, b, _, _⟩ := info_of inf57; ⟨i, _, a, b, rfl⟩⟩
instance : TCell Tryd.prog 57 := ⟨⟨_, Tryd.underlying57, rfl⟩, let ⟨i, a, _, c, _⟩ := info_of inf57; ⟨i, a, c⟩⟩
instance : TZeroC Tryd.prog 58 [.nilFunc] := ⟨let ⟨i, a, b, _, _⟩ := info_of inf58; ⟨i, _, a, b, rfl⟩⟩
instance : TCell Tryd.prog 58 := ⟨⟨_, Tryd.underlying58, rfl⟩, let ⟨i, a, _, c, _⟩ := info_of inf58; ⟨i, a, c⟩⟩
instance : TZeroC Tryd.prog 59 [.nilFunc] := ⟨let ⟨i, a, b, _, _⟩ := info_of inf59; ⟨i, _, a, b, rfl⟩⟩
instance : TCell Tryd.prog 59 := ⟨⟨_, Tryd.underlying59, rfl⟩, let ⟨i, a, _, c, _⟩ := info_of inf59; ⟨i, a, c⟩⟩
instance : TZeroC Tryd.prog 60 [.nilFunc] := ⟨let ⟨i, a, b, _, _⟩ := info_of inf60; ⟨i, _, a, b, rfl⟩⟩
instance : TCell Tryd.prog 60 := ⟨⟨_, Tryd.underlying60, rfl⟩, let ⟨i, a, _, c, _⟩ := info_of inf60; ⟨i, a, c⟩⟩
instance : TZeroC Tryd.prog 61 [.nilFunc] := ⟨let ⟨i, a, b, _, _⟩ := info_of inf61; ⟨i, _, a, b, rfl⟩⟩
instance : TCell Tryd.prog 61 := ⟨⟨_, Tryd.underlying61, rfl⟩, let ⟨i, a, _, c, _⟩ := info_of inf61; ⟨i, a, c⟩⟩
instance : TZeroC Tryd.prog 62 [.nilFunc] := ⟨let ⟨i, a, b, _, _⟩ := info_of inf62; ⟨i, _, a, b, rfl⟩⟩
instance : TCell Tryd.prog 62 := ⟨⟨_, Tryd.underlying62, rfl⟩, let ⟨i, a, _, c, _⟩ := info_of inf62; ⟨i, a, c⟩⟩
instance : TZeroC Tryd.prog 63 [.nilFunc] := ⟨let ⟨i, a, b, _, _⟩ := info_of inf63; ⟨i, _, a, b, rfl⟩⟩
instance : TCell Tryd.prog 63 := ⟨⟨_, Tryd.underlying63, rfl⟩, let ⟨i, a, _, c, _⟩ := info_of inf63; ⟨i, a, c⟩⟩
instance : TZeroC Tryd.prog 64 [.nilFunc] := ⟨let ⟨i, a, b, _, _⟩ := info_of inf64; ⟨i, _, a, b, rfl⟩⟩
instance : TCell Tryd.prog 64 := ⟨⟨_, Tryd.underlying64, rfl⟩, let ⟨i, a, _, c, _⟩ := info_of inf64; ⟨i, a, c⟩⟩
instance : TZeroC Tryd.prog 65 [.nilFunc] := ⟨let ⟨i, a, b, _, _⟩ := info_of inf65; ⟨i, _, a, b, rfl⟩⟩
instance : TCell Tryd.prog 65 := ⟨⟨_, Tryd.underlying65, rfl⟩, let ⟨i, a, _, c, _⟩ := info_of inf65; ⟨i, a, c⟩⟩
instance : TZeroC Tryd.prog 66 [(.pointer none)] := ⟨let ⟨i, a, b, _, _⟩ := info_of inf66; ⟨i, _, a, b, rfl⟩⟩
instance : TCell Tryd.prog 66 := ⟨⟨_, Tryd.underlying66, rfl⟩, let ⟨i, a, _, c, _⟩ := info_of inf66; ⟨i, a, c⟩⟩
instance : TPtr Tryd.prog 66 := ⟨_, Tryd.underlying66⟩
instance : TZeroC Tryd.prog 67 [(.int .i64 0), (.slice none 0 0)] := ⟨let ⟨i, a, b, _, _⟩ := info_of inf67; ⟨i, _, a, b, rfl⟩⟩
instance : TAgg Tryd.prog 67 2 := ⟨⟨_, Tryd.underlying67, rfl⟩, let ⟨i, a, _, c, _⟩ := info_of inf67; ⟨i, a, c⟩⟩
instance : TFld Tryd.prog 67 0 0 := ⟨let ⟨i, a, _, c, _⟩ := info_of inf33; ⟨_, _, i, Tryd.underlying67, rfl, rfl, a, by rw [c]; decide⟩⟩
instance : TFld Tryd.prog 67 1 1 := ⟨let ⟨i, a, _, c, _⟩ := info_of inf29; ⟨_, _, i, Tryd.underlying67, rfl, rfl, a, by rw [c]; decide⟩⟩
instance : TFldV Tryd.prog 67 0 0 := ⟨⟨_, _, _, Tryd.underlying67, rfl, rfl, Tryd.underlying33, rfl⟩⟩
instance : TFldV Tryd.prog 67 1 1 := ⟨⟨_, _, _, Tryd.underlying67, rfl, rfl, Tryd.underlying29, rfl⟩⟩
instance : TStruct Tryd.prog 67 [(0, 1), (1, 1)] [(.int .i64 0), (.slice none 0 0)] := ⟨let ⟨i, a, b, _, _⟩ := info_of inf67; ⟨i, _, _, a, b, rfl, Tryd.underlying67, by kernel_rfl⟩⟩
instance : TZeroC Tryd.prog 68 [(.int .i64 0), (.slice none 0 0)] := ⟨let ⟨i, a, b, _, _⟩ := info_of inf68; ⟨i, _, a, b, rfl⟩⟩
instance : TAgg Tryd.prog 68 2 := ⟨⟨_, Tryd.underlying68, rfl⟩, let ⟨i, a, _, c, _⟩ := info_of inf68; ⟨i, a, c⟩⟩
instance : TFld Tryd.prog 68 0 0 := ⟨let ⟨i, a, _, c, _⟩ := info_of inf33; ⟨_, _, i, Tryd.underlying68, rfl, rfl, a, by rw [c]; decide⟩⟩
instance : TFld Tryd.prog 68 1 1 := ⟨let ⟨i, a, _, c, _⟩ := info_of inf29; ⟨_, _, i, Tryd.underlying68, rfl, rfl, a, by rw [c]; decide⟩⟩
instance : TFldV Tryd.prog 68 0 0 := ⟨⟨_, _, _, Tryd.underlying68, rfl, rfl, Tryd.underlying33, rfl⟩⟩
instance : TFldV Tryd.prog 68 1 1 := ⟨⟨_, _, _, Tryd.underlying68, rfl, rfl, Tryd.underlying29, rfl⟩⟩
instance : TStruct Tryd.prog 68 [(0, 1), (1, 1)] [(.int .i64 0), (.slice none 0 0)] := ⟨let ⟨i, a, b, _, _⟩ := info_of inf68; ⟨i, _, _, a, b, rfl, Tryd.underlying68, by kernel_rfl⟩⟩
instance : TZeroC Tryd.prog 69 [.nilFunc] := ⟨let ⟨i, a, b, _, _⟩ := info_of inf69; ⟨i, _, a, b, rfl⟩⟩
instance : TCell Tryd.prog 69 := ⟨⟨_, Tryd.underlying69, rfl⟩, let ⟨i, a, _, c, _⟩ := info_of inf69; ⟨i, a, c⟩⟩
instance : TZeroC Tryd.prog 70 [(.slice none 0 0)] := ⟨let ⟨i, a, b, _, _⟩ := info_of inf70; ⟨i, _, a, b, rfl⟩⟩
instance : TCell Tryd.prog 70 := ⟨⟨_, Tryd.underlying70, rfl⟩, let ⟨i, a, _, c, _⟩ := info_of inf70; ⟨i, a, c⟩⟩
instance : TSlice Tryd.prog 70 55 2 := ⟨let ⟨i, a, _, c, _⟩ := info_of inf55; ⟨i, Tryd.underlying70, a, c⟩⟩
instance : TElem Tryd.prog 70 55 2 16 [(.bool false), (.int .i64 0)] := ⟨let ⟨i, a, b, c, d⟩ := info_of inf55; ⟨i, _, Tryd.underlying70, a, c, d, b, rfl, rfl⟩⟩
instance : TZeroC Tryd.prog 71 [.nilFunc] := ⟨let ⟨i, a, b, _, _⟩ := info_of inf71; ⟨i, _, a, b, rfl⟩⟩
instance : TCell Tryd.prog 71 := ⟨⟨_, Tryd.underlying71, rfl⟩, let ⟨i, a, _, c, _⟩ := info_of inf71; ⟨i, a, c⟩⟩
instance : TZeroC Tryd.prog 72 [.nilFunc] := ⟨let ⟨i, a, b, _, _⟩ := info_of inf72; ⟨i, _, a, b, rfl⟩⟩
instance : TCell Tryd.prog 72 := ⟨⟨_, Tryd.underlying72, rfl⟩, let ⟨i, a, _, c, _⟩ := info_of inf72; ⟨i, a, c⟩⟩
instance : TZeroC Tryd.prog 73 [(.string ByteArray.empty), (.int .i64 0)] := ⟨let ⟨i, a, b, _, _⟩ := info_of inf73; ⟨i, _, a, b, rfl⟩⟩
instance : TAgg Tryd.prog 73 2 := ⟨⟨_, Tryd.underlying73, rfl⟩, let ⟨i, a, _, c, _⟩ := info_of inf73; ⟨i, a, c⟩⟩
instance : TFld Tryd.prog 73 0 0 := ⟨let ⟨i, a, _, c, _⟩ := info_of inf9; ⟨_, _, i, Tryd.underlying73, rfl, rfl, a, by rw [c]; decide⟩⟩
instance : TFld Tryd.prog 73 1 1 := ⟨let ⟨i, a, _, c, _⟩ := info_of inf3; ⟨_, _, i, Tryd.underlying73, rfl, rfl, a, by rw [c]; decide⟩⟩
instance : TFldV Tryd.prog 73 0 0 := ⟨⟨_, _, _, Tryd.underlying73, rfl, rfl, Tryd.underlying9, rfl⟩⟩
instance : TFldV Tryd.prog 73 1 1 := ⟨⟨_, _, _, Tryd.underlying73, rfl, rfl, Tryd.underlying3, rfl⟩⟩
instance : TStruct Tryd.prog 73 [(0, 1), (1, 1)] [(.string ByteArray.empty), (.int .i64 0)] := ⟨let ⟨i, a, b, _, _⟩ := info_of inf73; ⟨i, _, _, a, b, rfl, Tryd.underlying73, by kernel_rfl⟩⟩
instance : TZeroC Tryd.prog 74 [(.string ByteArray.empty), (.int .i64 0)] := ⟨let ⟨i, a, b, _, _⟩ := info_of inf74; ⟨i, _, a, b, rfl⟩⟩
instance : TAgg Tryd.prog 74 2 := ⟨⟨_, Tryd.underlying74, rfl⟩, let ⟨i, a, _, c, _⟩ := info_of inf74; ⟨i, a, c⟩⟩
instance : TFld Tryd.prog 74 0 0 := ⟨let ⟨i, a, _, c, _⟩ := info_of inf9; ⟨_, _, i, Tryd.underlying74, rfl, rfl, a, by rw [c]; decide⟩⟩
instance : TFld Tryd.prog 74 1 1 := ⟨let ⟨i, a, _, c, _⟩ := info_of inf3; ⟨_, _, i, Tryd.underlying74, rfl, rfl, a, by rw [c]; decide⟩⟩
instance : TFldV Tryd.prog 74 0 0 := ⟨⟨_, _, _, Tryd.underlying74, rfl, rfl, Tryd.underlying9, rfl⟩⟩
instance : TFldV Tryd.prog 74 1 1 := ⟨⟨_, _, _, Tryd.underlying74, rfl, rfl, Tryd.underlying3, rfl⟩⟩
instance : TFlat Tryd.prog 74 [.str, .int .i64] := ⟨⟨_, Tryd.underlying74, by kernel_rfl⟩, by kernel_rfl, by kernel_rfl⟩
instance : TStruct Tryd.prog 74 [(0, 1), (1, 1)] [(.string ByteArray.empty), (.int .i64 0)] := ⟨let ⟨i, a, b, _, _⟩ := info_of inf74; ⟨i, _, _, a, b, rfl, Tryd.underlying74, by kernel_rfl⟩⟩
instance : TZeroC Tryd.prog 75 [.nilFunc] := ⟨let ⟨i, a, b, _, _⟩ := info_of inf75; ⟨i, _, a, b, rfl⟩⟩
instance : TCell Tryd.prog 75 := ⟨⟨_, Tryd.underlying75, rfl⟩, let ⟨i, a, _, c, _⟩ := info_of inf75; ⟨i, a, c⟩⟩
instance : TZeroC Tryd.prog 76 [.nilFunc] := ⟨let ⟨i, a, b, _, _⟩ := info_of inf76; ⟨i, _, a, b, rfl⟩⟩
instance : TCell Tryd.prog 76 := ⟨⟨_, Tryd.underlying76, rfl⟩, let ⟨i, a, _, c, _⟩ := info_of inf76; ⟨i, a, c⟩⟩
instance : TZeroC Tryd.prog 77 [.nilFunc] := ⟨let ⟨i, a, b, _, _⟩ := info_of inf77; ⟨i, _, a, b, rfl⟩⟩
instance : TCell Tryd.prog 77 := ⟨⟨_, Tryd.underlying77, rfl⟩, let ⟨i, a, _, c, _⟩ := info_of inf77; ⟨i, a, c⟩⟩
instance : TZeroC Tryd.prog 78 [.nilFunc] := ⟨let ⟨i, a, b, _, _⟩ := info_of inf78; ⟨i, _, a, b, rfl⟩⟩
instance : TCell Tryd.prog 78 := ⟨⟨_, Tryd.underlying78, rfl⟩, let ⟨i, a, _, c, _⟩ := info_of inf78; ⟨i, a, c⟩⟩
instance : TZeroC Tryd.prog 79 [.nilFunc] := ⟨let ⟨i, a, b, _, _⟩ := info_of inf79; ⟨i, _, a, b, rfl⟩⟩
instance : TCell Tryd.prog 79 := ⟨⟨_, Tryd.underlying79, rfl⟩, let ⟨i, a, _, c, _⟩ := info_of inf79; ⟨i, a, c⟩⟩
instance : TZeroC Tryd.prog 80 [.nilFunc] := ⟨let ⟨i, a, b, _, _⟩ := info_of inf80; ⟨i, _, a, b, rfl⟩⟩
instance : TCell Tryd.prog 80 := ⟨⟨_, Tryd.underlying80, rfl⟩, let ⟨i, a, _, c, _⟩ := info_of inf80; ⟨i, a, c⟩⟩
instance : TZeroC Tryd.prog 82 [.nilFunc] := ⟨let ⟨i, a, b, _, _⟩ := info_of inf82; ⟨i, _, a, b, rfl⟩⟩
instance : TCell Tryd.prog 82 := ⟨⟨_, Tryd.underlying82, rfl⟩, let ⟨i, a, _, c, _⟩ := info_of inf82; ⟨i, a, c⟩⟩
instance : TZeroC Tryd.prog 83 [.nilFunc] := ⟨let ⟨i, a, b, _, _⟩ := info_of inf83; ⟨i, _, a, b, rfl⟩⟩
instance : TCell Tryd.prog 83 := ⟨⟨_, Tryd.underlying83, rfl⟩, let ⟨i, a, _, c, _⟩ := info_of inf83; ⟨i, a, c⟩⟩
instance : TZeroC Tryd.prog 84 [(.pointer none)] := ⟨let ⟨i, a, b, _, _⟩ := info_of inf84; ⟨i, _, a, b, rfl⟩⟩
instance : TCell Tryd.prog 84 := ⟨⟨_, Tryd.underlying84, rfl⟩, let ⟨i, a, _, c, _⟩ := info_of inf84; ⟨i, a, c⟩⟩
instance : TZeroC Tryd.prog 85 [(.int .u64 0)] := ⟨let ⟨i, a, b, _, _⟩ := info_of inf85; ⟨i, _, a, b, rfl⟩⟩
instance : TCell Tryd.prog 85 := ⟨⟨_, Tryd.underlying85, rfl⟩, let ⟨i, a, _, c, _⟩ := info_of inf85; ⟨i, a, c⟩⟩
instance : TInt Tryd.prog 85 .u64 := ⟨Tryd.underlying85⟩
instance : TZeroC Tryd.prog 86 [(.pointer none), (.pointer none), (.int .u64 0)] := ⟨let ⟨i, a, b, _, _⟩ := info_of inf86; ⟨i, _, a, b, rfl⟩⟩
instance : TAgg Tryd.prog 86 3 := ⟨⟨_, Tryd.underlying86, rfl⟩, let ⟨i, a, _, c, _⟩ := info_of inf86; ⟨i, a, c⟩⟩
instance : TFld Tryd.prog 86 1 1 := ⟨let ⟨i, a, _, c, _⟩ := info_of inf84; ⟨_, _, i, Tryd.underlying86, rfl, rfl, a, by rw [c]; decide⟩⟩
instance : TFld Tryd.prog 86 2 2 := ⟨let ⟨i, a, _, c, _⟩ := info_of inf85; ⟨_, _, i, Tryd.underlying86, rfl, rfl, a, by rw [c]; decide⟩⟩
instance : TFldV Tryd.prog 86 1 1 := ⟨⟨_, _, _, Tryd.underlying86, rfl, rfl, Tryd.underlying84, rfl⟩⟩
instance : TFldV Tryd.prog 86 2 2 := ⟨⟨_, _, _, Tryd.underlying86, rfl, rfl, Tryd.underlying85, rfl⟩⟩
instance : TZeroC Tryd.prog 87 [(.pointer none), (.pointer none), (.int .u64 0)] := ⟨let ⟨i, a, b, _, _⟩ := info_of inf87; ⟨i, _, a, b, rfl⟩⟩
instance : TAgg Tryd.prog 87 3 := ⟨⟨_, Tryd.underlying87, rfl⟩, let ⟨i, a, _, c, _⟩ := info_of inf87; ⟨i, a, c⟩⟩
instance : TFld Tryd.prog 87 1 1 := ⟨let ⟨i, a, _, c, _⟩ := info_of inf84; ⟨_, _, i, Tryd.underlying87, rfl, rfl, a, by rw [c]; decide⟩⟩
instance : TFld Tryd.prog 87 2 2 := ⟨let ⟨i, a, _, c, _⟩ := info_of inf85; ⟨_, _, i, Tryd.underlying87, rfl, rfl, a, by rw [c]; decide⟩⟩
instance : TFldV Tryd.prog 87 1 1 := ⟨⟨_, _, _, Tryd.underlying87, rfl, rfl, Tryd.underlying84, rfl⟩⟩
instance : TFldV Tryd.prog 87 2 2 := ⟨⟨_, _, _, Tryd.underlying87, rfl, rfl, Tryd.underlying85, rfl⟩⟩
instance : TZeroC Tryd.prog 88 [.nilFunc] := ⟨let ⟨i, a, b, _, _⟩ := info_of inf88; ⟨i, _, a, b, rfl⟩⟩
instance : TCell Tryd.prog 88 := ⟨⟨_, Tryd.underlying88, rfl⟩, let ⟨i, a, _, c, _⟩ := info_of inf88; ⟨i, a, c⟩⟩
instance : TZeroC Tryd.prog 89 [.nilIface] := ⟨let ⟨i, a, b, _, _⟩ := info_of inf89; ⟨i, _, a, b, rfl⟩⟩
instance : TCell Tryd.prog 89 := ⟨⟨_, Tryd.underlying89, rfl⟩, let ⟨i, a, _, c, _⟩ := info_of inf89; ⟨i, a, c⟩⟩
instance : TIfc Tryd.prog 89 := ⟨_, Tryd.underlying89⟩
instance : TZeroC Tryd.prog 90 [.nilIface] := ⟨let ⟨i, a, b, _, _⟩ := info_of inf90; ⟨i, _, a, b, rfl⟩⟩
instance : TCell Tryd.prog 90 := ⟨⟨_, Tryd.underlying90, rfl⟩, let ⟨i, a, _, c, _⟩ := info_of inf90; ⟨i, a, c⟩⟩
instance : TIfc Tryd.prog 90 := ⟨_, Tryd.underlying90⟩
instance : TZeroC Tryd.prog 91 [.nilFunc] := ⟨let ⟨i, a, b, _, _⟩ := info_of inf91; ⟨i, _, a, b, rfl⟩⟩
instance : TCell Tryd.prog 91 := ⟨⟨_, Tryd.underlying91, rfl⟩, let ⟨i, a, _, c, _⟩ := info_of inf91; ⟨i, a, c⟩⟩
instance : TZeroC Tryd.prog 93 [.nilFunc] := ⟨let ⟨i, a, b, _, _⟩ := info_of inf93; ⟨i, _, a, b, rfl⟩⟩
instance : TCell Tryd.prog 93 := ⟨⟨_, Tryd.underlying93, rfl⟩, let ⟨i, a, _, c, _⟩ := info_of inf93; ⟨i, a, c⟩⟩
instance : TZeroC Tryd.prog 94 [.nilFunc] := ⟨let ⟨i, a, b, _, _⟩ := info_of inf94; ⟨i, _, a, b, rfl⟩⟩
instance : TCell Tryd.prog 94 := ⟨⟨_, Tryd.underlying94, rfl⟩, let ⟨i, a, _, c, _⟩ := info_of inf94; ⟨i, a, c⟩⟩
instance : TZeroC Tryd.prog 95 [.nilFunc] := ⟨let ⟨i, a, b, _, _⟩ := info_of inf95; ⟨i, _, a, b, rfl⟩⟩
instance : TCell Tryd.prog 95 := ⟨⟨_, Tryd.underlying95, rfl⟩, let ⟨i, a, _, c, _⟩ := info_of inf95; ⟨i, a, c⟩⟩
instance : TZeroC Tryd.prog 96 [.nilFunc] := ⟨let ⟨i, a, b, _, _⟩ := info_of inf96; ⟨i, _, a, b, rfl⟩⟩
instance : TCell Tryd.prog 96 := ⟨⟨_, Tryd.underlying96, rfl⟩, let ⟨i, a, _, c, _⟩ := info_of inf96; ⟨i, a, c⟩⟩
instance : TZeroC Tryd.prog 97 [.nilFunc] := ⟨let ⟨i, a, b, _, _⟩ := info_of inf97; ⟨i, _, a, b, rfl⟩⟩
instance : TCell Tryd.prog 97 := ⟨⟨_, Tryd.underlying97, rfl⟩, let ⟨i, a, _, c, _⟩ := info_of inf97; ⟨i, a, c⟩⟩
instance : TZeroC Tryd.prog 98 [.nilFunc] := ⟨let ⟨i, a, b, _, _⟩ := info_of inf98; ⟨i, _, a, b, rfl⟩⟩
instance : TCell Tryd.prog 98 := ⟨⟨_, Tryd.underlying98, rfl⟩, let ⟨i, a, _, c, _⟩ := info_of inf98; ⟨i, a, c⟩⟩
instance : TZeroC Tryd.prog 99 [.nilFunc] := ⟨let ⟨i, a, b, _, _⟩ := info_of inf99; ⟨i, _, a, b, rfl⟩⟩
instance : TCell Tryd.prog 99 := ⟨⟨_, Tryd.underlying99, rfl⟩, let ⟨i, a, _, c, _⟩ := info_of inf99; ⟨i, a, c⟩⟩
instance : TZeroC Tryd.prog 100 [.nilFunc] := ⟨let ⟨i, a, b, _, _⟩ := info_of inf100; ⟨i, _, a, b, rfl⟩⟩
instance : TCell Tryd.prog 100 := ⟨⟨_, Tryd.underlying100, rfl⟩, let ⟨i, a, _, c, _⟩ := info_of inf100; ⟨i, a, c⟩⟩
instance : TZeroC Tryd.prog 101 [.nilFunc] := ⟨let ⟨i, a, b, _, _⟩ := info_of inf101; ⟨i, _, a, b, rfl⟩⟩
instance : TCell Tryd.prog 101 := ⟨⟨_, Tryd.underlying101, rfl⟩, let ⟨i, a, _, c, _⟩ := info_of inf101; ⟨i, a, c⟩⟩
instance : TZeroC Tryd.prog 102 [.nilFunc] := ⟨let ⟨i, a, b, _, _⟩ := info_of inf102; ⟨i, _, a, b, rfl⟩⟩
instance : TCell Tryd.prog 102 := ⟨⟨_, Tryd.underlying102, rfl⟩, let ⟨i, a, _, c, _⟩ := info_of inf102; ⟨i, a, c⟩⟩
instance : TZeroC Tryd.prog 103 [.nilFunc] := ⟨let ⟨i, a, b, _, _⟩ := info_of inf103; ⟨i, _, a, b, rfl⟩⟩
instance : TCell Tryd.prog 103 := ⟨⟨_, Tryd.underlying103, rfl⟩, let ⟨i, a, _, c, _⟩ := info_of inf103; ⟨i, a, c⟩⟩
instance : TZeroC Tryd.prog 104 [.nilFunc] := ⟨let ⟨i, a, b, _, _⟩ := info_of inf104; ⟨i, _, a, b, rfl⟩⟩
instance : TCell Tryd.prog 104 := ⟨⟨_, Tryd.underlying104, rfl⟩, let ⟨i, a, _, c, _⟩ := info_of inf104; ⟨i, a, c⟩⟩
instance : TZeroC Tryd.prog 105 [.nilFunc] := ⟨let ⟨i, a, b, _, _⟩ := info_of inf105; ⟨i, _, a, b, rfl⟩⟩
instance : TCell Tryd.prog 105 := ⟨⟨_, Tryd.underlying105, rfl⟩, let ⟨i, a, _, c, _⟩ := info_of inf105; ⟨i, a, c⟩⟩
instance : TZeroC Tryd.prog 106 [.nilFunc] := ⟨let ⟨i, a, b, _, _⟩ := info_of inf106; ⟨i, _, a, b, rfl⟩⟩
instance : TCell Tryd.prog 106 := ⟨⟨_, Tryd.underlying106, rfl⟩, let ⟨i, a, _, c, _⟩ := info_of inf106; ⟨i, a, c⟩⟩
instance : TZeroC Tryd.prog 107 [(.pointer none)] := ⟨let ⟨i, a, b, _, _⟩ := info_of inf107; ⟨i, _, a, b, rfl⟩⟩
instance : TAgg Tryd.prog 107 1 := ⟨⟨_, Tryd.underlying107, rfl⟩, let ⟨i, a, _, c, _⟩ := info_of inf107; ⟨i, a, c⟩⟩
instance : TZeroC Tryd.prog 108 [(.pointer none)] := ⟨let ⟨i, a, b, _, _⟩ := info_of inf108; ⟨i, _, a, b, rfl⟩⟩
instance : TAgg Tryd.prog 108 1 := ⟨⟨_, Tryd.underlying108, rfl⟩, let ⟨i, a, _, c, _⟩ := info_of inf108; ⟨i, a, c⟩⟩
instance : TZeroC Tryd.prog 109 [(.pointer none)] := ⟨let ⟨i, a, b, _, _⟩ := info_of inf109; ⟨i, _, a, b, rfl⟩⟩
instance : TCell Tryd.prog 109 := ⟨⟨_, Tryd.underlying109, rfl⟩, let ⟨i, a, _, c, _⟩ := info_of inf109; ⟨i, a, c⟩⟩
instance : TPtr Tryd.prog 109 := ⟨_, Tryd.underlying109⟩
instance : TZeroC Tryd.prog 110 [.nilFunc] := ⟨let ⟨i, a, b, _, _⟩ := info_of inf110; ⟨i, _, a, b, rfl⟩⟩
instance : TCell Tryd.prog 110 := ⟨⟨_, Tryd.underlying110, rfl⟩, let ⟨i, a, _, c, _⟩ := info_of inf110; ⟨i, a, c⟩⟩
instance : TZeroC Tryd.prog 111 [.nilFunc] := ⟨let ⟨i, a, b, _, _⟩ := info_of inf111; ⟨i, _, a, b, rfl⟩⟩
instance : TCell Tryd.prog 111 := ⟨⟨_, Tryd.underlying111, rfl⟩, let ⟨i, a, _, c, _⟩ := info_of inf111; ⟨i, a, c⟩⟩
instance : TZeroC Tryd.prog 112 [.nilFunc] := ⟨let ⟨i, a, b, _, _⟩ := info_of inf112; ⟨i, _, a, b, rfl⟩⟩
instance : TCell Tryd.prog 112 := ⟨⟨_, Tryd.underlying112, rfl⟩, let ⟨i, a, _, c, _⟩ := info_of inf112; ⟨i, a, c⟩⟩
instance : TZeroC Tryd.prog 113 [.nilIface] := ⟨let ⟨i, a, b, _, _⟩ := info_of inf113; ⟨i, _, a, b, rfl⟩⟩
instance : TCell Tryd.prog 113 := ⟨⟨_, Tryd.underlying113, rfl⟩, let ⟨i, a, _, c, _⟩ := info_of inf113; ⟨i, a, c⟩⟩
instance : TIfc Tryd.prog 113 := ⟨_, Tryd.underlying113⟩
instance : TZeroC Tryd.prog 115 [.nilFunc] := ⟨let ⟨i, a, b, _, _⟩ := info_of inf115; ⟨i, _, a, b, rfl⟩⟩
instance : TCell Tryd.prog 115 := ⟨⟨_, Tryd.underlying115, rfl⟩, let ⟨i, a, _, c, _⟩ := info_of inf115; ⟨i, a, c⟩⟩
instance : TZeroC Tryd.prog 116 [.nilIface] := ⟨let ⟨i, a, b, _, _⟩ := info_of inf116; ⟨i, _, a, b, rfl⟩⟩
instance : TCell Tryd.prog 116 := ⟨⟨_, Tryd.underlying116, rfl⟩, let ⟨i, a, _, c, _⟩ := info_of inf116; ⟨i, a, c⟩⟩
instance : TIfc Tryd.prog 116 := ⟨_, Tryd.underlying116⟩
instance : TZeroC Tryd.prog 117 [.nilFunc] := ⟨let ⟨i, a, b, _, _⟩ := info_of inf117; ⟨i, _, a, b, rfl⟩⟩
instance : TCell Tryd.prog 117 := ⟨⟨_, Tryd.underlying117, rfl⟩, let ⟨i, a, _, c, _⟩ := info_of inf117; ⟨i, a, c⟩⟩
instance : TZeroC Tryd.prog 118 [.nilIface] := ⟨let ⟨i, a, b, _, _⟩ := info_of inf118; ⟨i, _, a, b, rfl⟩⟩
instance : TCell Tryd.prog 118 := ⟨⟨_, Tryd.underlying118, rfl⟩, let ⟨i, a, _, c, _⟩ := info_of inf118; ⟨i, a, c⟩⟩
instance : TIfc Tryd.prog 118 := ⟨_, Tryd.underlying118⟩
instance : TZeroC Tryd.prog 119 [(.slice none 0 0)] := ⟨let ⟨i, a, b, _, _⟩ := info_of inf119; ⟨i, _, a, b, rfl⟩⟩
instance : TCell Tryd.prog 119 := ⟨⟨_, Tryd.underlying119, rfl⟩, let ⟨i, a, _, c, _⟩ := info_of inf119; ⟨i, a, c⟩⟩
instance : TSlice Tryd.prog 119 27 1 := ⟨let ⟨i, a, _, c, _⟩ := info_of inf27; ⟨i, Tryd.underlying119, a, c⟩⟩
instance : TElem Tryd.prog 119 27 1 16 [.nilIface] := ⟨let ⟨i, a, b, c, d⟩ := info_of inf27; ⟨i, _, Tryd.underlying119, a, c, d, b, rfl, rfl⟩⟩
instance : TZeroC Tryd.prog 120 [.nilFunc] := ⟨let ⟨i, a, b, _, _⟩ := info_of inf120; ⟨i, _, a, b, rfl⟩⟩
instance : TCell Tryd.prog 120 := ⟨⟨_, Tryd.underlying120, rfl⟩, let ⟨i, a, _, c, _⟩ := info_of inf120; ⟨i, a, c⟩⟩
instance : TZeroC Tryd.prog 121 [.nilFunc] := ⟨let ⟨i, a, b, _, _⟩ := info_of inf121; ⟨i, _, a, b, rfl⟩⟩
instance : TCell Tryd.prog 121 := ⟨⟨_, Tryd.underlying121, rfl⟩, let ⟨i, a, _, c, _⟩ := info_of inf121; ⟨i, a, c⟩⟩
instance : TZeroC Tryd.prog 122 [.nilFunc] := ⟨let ⟨i, a, b, _, _⟩ := info_of inf122; ⟨i, _, a, b, rfl⟩⟩
instance : TCell Tryd.prog 122 := ⟨⟨_, Tryd.underlying122, rfl⟩, let ⟨i, a, _, c, _⟩ := info_of inf122; ⟨i, a, c⟩⟩
instance : TZeroC Tryd.prog 123 [.nilFunc] := ⟨let ⟨i, a, b, _, _⟩ := info_of inf123; ⟨i, _, a, b, rfl⟩⟩
instance : TCell Tryd.prog 123 := ⟨⟨_, Tryd.underlying123, rfl⟩, let ⟨i, a, _, c, _⟩ := info_of inf123; ⟨i, a, c⟩⟩
instance : TZeroC Tryd.prog 124 [.nilFunc] := ⟨let ⟨i, a, b, _, _⟩ := info_of inf124; ⟨i, _, a, b, rfl⟩⟩
instance : TCell Tryd.prog 124 := ⟨⟨_, Tryd.underlying124, rfl⟩, let ⟨i, a, _, c, _⟩ := info_of inf124; ⟨i, a, c⟩⟩
instance : TZeroC Tryd.prog 125 [.nilFunc] := ⟨let ⟨i, a, b, _, _⟩ := info_of inf125; ⟨i, _, a, b, rfl⟩⟩
instance : TCell Tryd.prog 125 := ⟨⟨_, Tryd.underlying125, rfl⟩, let ⟨i, a, _, c, _⟩ := info_of inf125; ⟨i, a, c⟩⟩
instance : TZeroC Tryd.prog 126 [.nilFunc] := ⟨let ⟨i, a, b, _, _⟩ := info_of inf126; ⟨i, _, a, b, rfl⟩⟩
instance : TCell Tryd.prog 126 := ⟨⟨_, Tryd.underlying126, rfl⟩, let ⟨i, a, _, c, _⟩ := info_of inf126; ⟨i, a, c⟩⟩
instance : TZeroC Tryd.prog 127 [.nilFunc] := ⟨let ⟨i, a, b, _, _⟩ := info_of inf127; ⟨i, _, a, b, rfl⟩⟩
instance : TCell Tryd.prog 127 := ⟨⟨_, Tryd.underlying127, rfl⟩, let ⟨i, a, _, c, _⟩ := info_of inf127; ⟨i, a, c⟩⟩
instance : TZeroC Tryd.prog 128 [.nilFunc] := ⟨let ⟨i, a, b, _, _⟩ := info_of inf128; ⟨i, _, a, b, rfl⟩⟩
instance : TCell Tryd.prog 128 := ⟨⟨_, Tryd.underlying128, rfl⟩, let ⟨i, a, _, c, _⟩ := info_of inf128; ⟨i, a, c⟩⟩
instance : TZeroC Tryd.prog 130 [.nilFunc] := ⟨let ⟨i, a, b, _, _⟩ := info_of inf130; ⟨i, _, a, b, rfl⟩⟩
instance : TCell Tryd.prog 130 := ⟨⟨_, Tryd.underlying130, rfl⟩, let ⟨i, a, _, c, _⟩ := info_of inf130; ⟨i, a, c⟩⟩
instance : TZeroC Tryd.prog 131 [.nilFunc] := ⟨let ⟨i, a, b, _, _⟩ := info_of inf131; ⟨i, _, a, b, rfl⟩⟩
instance : TCell Tryd.prog 131 := ⟨⟨_, Tryd.underlying131, rfl⟩, let ⟨i, a, _, c, _⟩ := info_of inf131; ⟨i, a, c⟩⟩
instance : TZeroC Tryd.prog 132 [(.slice none 0 0)] := ⟨let ⟨i, a, b, _, _⟩ := info_of inf132; ⟨i, _, a, b, rfl⟩⟩
instance : TCell Tryd.prog 132 := ⟨⟨_, Tryd.underlying132, rfl⟩, let ⟨i, a, _, c, _⟩ := info_of inf132; ⟨i, a, c⟩⟩
instance : TSlice Tryd.prog 132 9 1 := ⟨let ⟨i, a, _, c, _⟩ := info_of inf9; ⟨i, Tryd.underlying132, a, c⟩⟩
instance : TElem Tryd.prog 132 9 1 16 [(.string ByteArray.empty)] := ⟨let ⟨i, a, b, c, d⟩ := info_of inf9; ⟨i, _, Tryd.underlying132, a, c, d, b, rfl, rfl⟩⟩
instance : TZeroC Tryd.prog 133 [.nilFunc] := ⟨let ⟨i, a, b, _, _⟩ := info_of inf133; ⟨i, _, a, b, rfl⟩⟩
instance : TCell Tryd.prog 133 := ⟨⟨_, Tryd.underlying133, rfl⟩, let ⟨i, a, _, c, _⟩ := info_of inf133; ⟨i, a, c⟩⟩
instance : TZeroC Tryd.prog 134 [.nilFunc] := ⟨let ⟨i, a, b, _, _⟩ := info_of inf134; ⟨i, _, a, b, rfl⟩⟩
instance : TCell Tryd.prog 134 := ⟨⟨_, Tryd.underlying134, rfl⟩, let ⟨i, a, _, c, _⟩ := info_of inf134; ⟨i, a, c⟩⟩
instance : TZeroC Tryd.prog 135 [.nilFunc] := ⟨let ⟨i, a, b, _, _⟩ := info_of inf135; ⟨i, _, a, b, rfl⟩⟩
instance : TCell Tryd.prog 135 := ⟨⟨_, Tryd.underlying135, rfl⟩, let ⟨i, a, _, c, _⟩ := info_of inf135; ⟨i, a, c⟩⟩
instance : TZeroC Tryd.prog 136 [(.pointer none), (.pointer none), (.pointer none), (.string ByteArray.empty)] := ⟨let ⟨i, a, b, _, _⟩ := info_of inf136; ⟨i, _, a, b, rfl⟩⟩
instance : TAgg Tryd.prog 136 4 := ⟨⟨_, Tryd.underlying136, rfl⟩, let ⟨i, a, _, c, _⟩ := info_of inf136; ⟨i, a, c⟩⟩
instance : TFld Tryd.prog 136 3 3 := ⟨let ⟨i, a, _, c, _⟩ := info_of inf9; ⟨_, _, i, Tryd.underlying136, rfl, rfl, a, by rw [c]; decide⟩⟩
instance : TFldV Tryd.prog 136 3 3 := ⟨⟨_, _, _, Tryd.underlying136, rfl, rfl, Tryd.underlying9, rfl⟩⟩
instance : TZeroC Tryd.prog 138 [] := ⟨let ⟨i, a, b, _, _⟩ := info_of inf138; ⟨i, _, a, b, rfl⟩⟩
instance : TAgg Tryd.prog 138 0 := ⟨⟨_, Tryd.underlying138, rfl⟩, let ⟨i, a, _, c, _⟩ := info_of inf138; ⟨i, a, c⟩⟩
instance : TZeroC Tryd.prog 139 [] := ⟨let ⟨i, a, b, _, _⟩ := info_of inf139; ⟨i, _, a, b, rfl⟩⟩
instance : TAgg Tryd.prog 139 0 := ⟨⟨_, Tryd.underlying139, rfl⟩, let ⟨i, a, _, c, _⟩ := info_of inf139; ⟨i, a, c⟩⟩
instance : TFldA Tryd.prog 139 0 0 0 := ⟨let ⟨i, a, _, c, _⟩ := info_of inf138; ⟨_, _, _, i, Tryd.underlying139, rfl, rfl, Tryd.underlying138, rfl, a, c⟩⟩
instance : TStruct Tryd.prog 139 [(0, 0)] [] := ⟨let ⟨i, a, b, _, _⟩ := info_of inf139; ⟨i, _, _, a, b, rfl, Tryd.underlying139, by kernel_rfl⟩⟩
instance : TZeroC Tryd.prog 141 [.nilFunc] := ⟨let ⟨i, a, b, _, _⟩ := info_of inf141; ⟨i, _, a, b, rfl⟩⟩
instance : TCell Tryd.prog 141 := ⟨⟨_, Tryd.underlying141, rfl⟩, let ⟨i, a, _, c, _⟩ := info_of inf141; ⟨i, a, c⟩⟩
instance : TZeroC Tryd.prog 142 [.nilFunc] := ⟨let ⟨i, a, b, _, _⟩ := info_of inf142; ⟨i, _, a, b, rfl⟩⟩
instance : TCell Tryd.prog 142 := ⟨⟨_, Tryd.underlying142, rfl⟩, let ⟨i, a, _, c, _⟩ := info_of inf142; ⟨i, a, c⟩⟩
instance : TZeroC Tryd.prog 143 [(.int .u32 0)] := ⟨let ⟨i, a, b, _, _⟩ := info_of inf143; ⟨i, _, a, b, rfl⟩⟩
instance : TCell Tryd.prog 143 := ⟨⟨_, Tryd.underlying143, rfl⟩, let ⟨i, a, _, c, _⟩ := info_of inf143; ⟨i, a, c⟩⟩
instance : TInt Tryd.prog 143 .u32 := ⟨Tryd.underlying143⟩
instance : TZeroC Tryd.prog 145 [.nilFunc] := ⟨let ⟨i, a, b, _, _⟩ := info_of inf145; ⟨i, _, a, b, rfl⟩⟩
instance : TCell Tryd.prog 145 := ⟨⟨_, Tryd.underlying145, rfl⟩, let ⟨i, a, _, c, _⟩ := info_of inf145; ⟨i, a, c⟩⟩
instance : TZeroC Tryd.prog 146 [(.pointer none)] := ⟨let ⟨i, a, b, _, _⟩ := info_of inf146; ⟨i, _, a, b, rfl⟩⟩
instance : TCell Tryd.prog 146 := ⟨⟨_, Tryd.underlying146, rfl⟩, let ⟨i, a, _, c, _⟩ := info_of inf146; ⟨i, a, c⟩⟩
instance : TPtr Tryd.prog 146 := ⟨_, Tryd.underlying146⟩
instance : TZeroC Tryd.prog 149 [(.int .u64 0), (.int .u64 0), (.int .u32 0), (.int .u8 0), (.int .u8 0), (.int .u8 0), (.int .u8 0), .nilFunc, (.pointer none), (.int .i32 0), (.int .i32 0)] := ⟨let ⟨i, a, b, _, _⟩ := info_of inf149; ⟨i, _, a, b, rfl⟩⟩
instance : TAgg Tryd.prog 149 11 := ⟨⟨_, Tryd.underlying149, rfl⟩, let ⟨i, a, _, c, _⟩ := info_of inf149; ⟨i, a, c⟩⟩
instance : TFld Tryd.prog 149 0 0 := ⟨let ⟨i, a, _, c, _⟩ := info_of inf12; ⟨_, _, i, Tryd.underlying149, rfl, rfl, a, by rw [c]; decide⟩⟩
instance : TFld Tryd.prog 149 1 1 := ⟨let ⟨i, a, _, c, _⟩ := info_of inf12; ⟨_, _, i, Tryd.underlying149, rfl, rfl, a, by rw [c]; decide⟩⟩
instance : TFld Tryd.prog 149 2 2 := ⟨let ⟨i, a, _, c, _⟩ := info_of inf143; ⟨_, _, i, Tryd.underlying149, rfl, rfl, a, by rw [c]; decide⟩⟩
instance : TFld Tryd.prog 149 4 4 := ⟨let ⟨i, a, _, c, _⟩ := info_of inf5; ⟨_, _, i, Tryd.underlying149, rfl, rfl, a, by rw [c]; decide⟩⟩
instance : TFld Tryd.prog 149 5 5 := ⟨let ⟨i, a, _, c, _⟩ := info_of inf5; ⟨_, _, i, Tryd.underlying149, rfl, rfl, a, by rw [c]; decide⟩⟩
instance : TFld Tryd.prog 149 7 7 := ⟨let ⟨i, a, _, c, _⟩ := info_of inf145; ⟨_, _, i, Tryd.underlying149, rfl, rfl, a, by rw [c]; decide⟩⟩
instance : TFld Tryd.prog 149 8 8 := ⟨let ⟨i, a, _, c, _⟩ := info_of inf146; ⟨_, _, i, Tryd.underlying149, rfl, rfl, a, by rw [c]; decide⟩⟩
instance : TFldV Tryd.prog 149 0 0 := ⟨⟨_, _, _, Tryd.underlying149, rfl, rfl, Tryd.underlying12, rfl⟩⟩
instance : TFldV Tryd.prog 149 1 1 := ⟨⟨_, _, _, Tryd.underlying149, rfl, rfl, Tryd.underlying12, rfl⟩⟩
instance : TFldV Tryd.prog 149 2 2 := ⟨⟨_, _, _, Tryd.underlying149, rfl, rfl, Tryd.underlying143, rfl⟩⟩
instance : TFldV Tryd.prog 149 4 4 := ⟨⟨_, _, _, Tryd.underlying149, rfl, rfl, Tryd.underlying5, rfl⟩⟩
instance : TFldV Tryd.prog 149 5 5 := ⟨⟨_, _, _, Tryd.underlying149, rfl, rfl, Tryd.underlying5, rfl⟩⟩
instance : TFldV Tryd.prog 149 7 7 := ⟨⟨_, _, _, Tryd.underlying149, rfl, rfl, Tryd.underlying145, rfl⟩⟩
instance : TFldV Tryd.prog 149 8 8 := ⟨⟨_, _, _, Tryd.underlying149, rfl, rfl, Tryd.underlying146, rfl⟩⟩
instance : TZeroC Tryd.prog 151 [.nilFunc] := ⟨let ⟨i, a, b, _, _⟩ := info_of inf151; ⟨i, _, a, b, rfl⟩⟩
instance : TCell Tryd.prog 151 := ⟨⟨_, Tryd.underlying151, rfl⟩, let ⟨i, a, _, c, _⟩ := info_of inf151; ⟨i, a, c⟩⟩
instance : TZeroC Tryd.prog 152 [.nilFunc] := ⟨let ⟨i, a, b, _, _⟩ := info_of inf152; ⟨i, _, a, b, rfl⟩⟩
instance : TCell Tryd.prog 152 := ⟨⟨_, Tryd.underlying152, rfl⟩, let ⟨i, a, _, c, _⟩ := info_of inf152; ⟨i, a, c⟩⟩
instance : TZeroC Tryd.prog 153 [(.string ByteArray.empty), (.int .u8 0)] := ⟨let ⟨i, a, b, _, _⟩ := info_of inf153; ⟨i, _, a, b, rfl⟩⟩
instance : TAgg Tryd.prog 153 2 := ⟨⟨_, Tryd.underlying153, rfl⟩, let ⟨i, a, _, c, _⟩ := info_of inf153; ⟨i, a, c⟩⟩
instance : TFld Tryd.prog 153 0 0 := ⟨let ⟨i, a, _, c, _⟩ := info_of inf9; ⟨_, _, i, Tryd.underlying153, rfl, rfl, a, by rw [c]; decide⟩⟩
instance : TFldV Tryd.prog 153 0 0 := ⟨⟨_, _, _, Tryd.underlying153, rfl, rfl, Tryd.underlying9, rfl⟩⟩
instance : TZeroC Tryd.prog 154 [(.string ByteArray.empty), (.int .u8 0)] := ⟨let ⟨i, a, b, _, _⟩ := info_of inf154; ⟨i, _, a, b, rfl⟩⟩
instance : TAgg Tryd.prog 154 2 := ⟨⟨_, Tryd.underlying154, rfl⟩, let ⟨i, a, _, c, _⟩ := info_of inf154; ⟨i, a, c⟩⟩
instance : TFld Tryd.prog 154 0 0 := ⟨let ⟨i, a, _, c, _⟩ := info_of inf9; ⟨_, _, i, Tryd.underlying154, rfl, rfl, a, by rw [c]; decide⟩⟩
instance : TFldV Tryd.prog 154 0 0 := ⟨⟨_, _, _, Tryd.underlying154, rfl, rfl, Tryd.underlying9, rfl⟩⟩
instance : TZeroC Tryd.prog 156 [.nilFunc] := ⟨let ⟨i, a, b, _, _⟩ := info_of inf156; ⟨i, _, a, b, rfl⟩⟩
instance : TCell Tryd.prog 156 := ⟨⟨_, Tryd.underlying156, rfl⟩, let ⟨i, a, _, c, _⟩ := info_of inf156; ⟨i, a, c⟩⟩
instance : TZeroC Tryd.prog 157 [(.int .u16 0)] := ⟨let ⟨i, a, b, _, _⟩ := info_of inf157; ⟨i, _, a, b, rfl⟩⟩
instance : TCell Tryd.prog 157 := ⟨⟨_, Tryd.underlying157, rfl⟩, let ⟨i, a, _, c, _⟩ := info_of inf157; ⟨i, a, c⟩⟩
instance : TInt Tryd.prog 157 .u16 := ⟨Tryd.underlying157⟩
instance : TZeroC Tryd.prog 158 [(.int .i32 0), (.int .u16 0), (.int .u16 0), (.int .u32 0), (.int .u32 0)] := ⟨let ⟨i, a, b, _, _⟩ := info_of inf158; ⟨i, _, a, b, rfl⟩⟩
instance : TAgg Tryd.prog 158 5 := ⟨⟨_, Tryd.underlying158, rfl⟩, let ⟨i, a, _, c, _⟩ := info_of inf158; ⟨i, a, c⟩⟩
instance : TFld Tryd.prog 158 1 1 := ⟨let ⟨i, a, _, c, _⟩ := info_of inf157; ⟨_, _, i, Tryd.underlying158, rfl, rfl, a, by rw [c]; decide⟩⟩
instance : TFld Tryd.prog 158 2 2 := ⟨let ⟨i, a, _, c, _⟩ := info_of inf157; ⟨_, _, i, Tryd.underlying158, rfl, rfl, a, by rw [c]; decide⟩⟩
instance : TFld Tryd.prog 158 3 3 := ⟨let ⟨i, a, _, c, _⟩ := info_of inf143; ⟨_, _, i, Tryd.underlying158, rfl, rfl, a, by rw [c]; decide⟩⟩
instance : TFld Tryd.prog 158 4 4 := ⟨let ⟨i, a, _, c, _⟩ := info_of inf143; ⟨_, _, i, Tryd.underlying158, rfl, rfl, a, by rw [c]; decide⟩⟩
instance : TFldV Tryd.prog 158 1 1 := ⟨⟨_, _, _, Tryd.underlying158, rfl, rfl, Tryd.underlying157, rfl⟩⟩
instance : TFldV Tryd.prog 158 2 2 := ⟨⟨_, _, _, Tryd.underlying158, rfl, rfl, Tryd.underlying157, rfl⟩⟩
instance : TFldV Tryd.prog 158 3 3 := ⟨⟨_, _, _, Tryd.underlying158, rfl, rfl, Tryd.underlying143, rfl⟩⟩
instance : TFldV Tryd.prog 158 4 4 := ⟨⟨_, _, _, Tryd.underlying158, rfl, rfl, Tryd.underlying143, rfl⟩⟩
instance : TZeroC Tryd.prog 160 [(.slice none 0 0)] := ⟨let ⟨i, a, b, _, _⟩ := info_of inf160; ⟨i, _, a, b, rfl⟩⟩
instance : TCell Tryd.prog 160 := ⟨⟨_, Tryd.underlying160, rfl⟩, let ⟨i, a, _, c, _⟩ := info_of inf160; ⟨i, a, c⟩⟩
instance : TZeroC Tryd.prog 162 [(.int .i32 0), (.int .i32 0), (.int .i32 0), (.int .i32 0)] := ⟨let ⟨i, a, b, _, _⟩ := info_of inf162; ⟨i, _, a, b, rfl⟩⟩
instance : TAgg Tryd.prog 162 4 := ⟨⟨_, Tryd.underlying162, rfl⟩, let ⟨i, a, _, c, _⟩ := info_of inf162; ⟨i, a, c⟩⟩
instance : TZeroC Tryd.prog 164 [(.pointer none)] := ⟨let ⟨i, a, b, _, _⟩ := info_of inf164; ⟨i, _, a, b, rfl⟩⟩
instance : TCell Tryd.prog 164 := ⟨⟨_, Tryd.underlying164, rfl⟩, let ⟨i, a, _, c, _⟩ := info_of inf164; ⟨i, a, c⟩⟩
instance : TPtr Tryd.prog 164 := ⟨_, Tryd.underlying164⟩
instance : TFunc Tryd.prog 2 := ⟨_, _, Tryd.func2, rfl, by decide⟩
instance : TFunc Tryd.prog 3 := ⟨_, _, Tryd.func3, rfl, by decide⟩
instance : TFunc Tryd.prog 4 := ⟨_, _, Tryd.func4, rfl, by decide⟩
instance : TFunc Tryd.prog 5 := ⟨_, _, Tryd.func5, rfl, by decide⟩
instance : TFunc Tryd.prog 6 := ⟨_, _, Tryd.func6, rfl, by decide⟩
instance : TFunc Tryd.prog 7 := ⟨_, _, Tryd.func7, rfl, by decide⟩
instance : TFunc Tryd.prog 8 := ⟨_, _, Tryd.func8, rfl, by decide⟩
instance : TFunc Tryd.prog 9 := ⟨_, _, Tryd.func9, rfl, by decide⟩
instance : TFunc Tryd.prog 10 := ⟨_, _, Tryd.func10, rfl, by decide⟩
instance : TFunc Tryd.prog 11 := ⟨_, _, Tryd.func11, rfl, by decide⟩
instance : TFunc Tryd.prog 12 := ⟨_, _, Tryd.func12, rfl, by decide⟩
instance : TFunc Tryd.prog 13 := ⟨_, _, Tryd.func13, rfl, by decide⟩
instance : TFunc Tryd.prog 14 := ⟨_, _, Tryd.func14, rfl, by decide⟩
instance : TFunc Tryd.prog 15 := ⟨_, _, Tryd.func15, rfl, by decide⟩
instance : TFunc Tryd.prog 16 := ⟨_, _, Tryd.func16, rfl, by decide⟩
instance : TFunc Tryd.prog 17 := ⟨_, _, Tryd.func17, rfl, by decide⟩
instance : TFunc Tryd.prog 18 := ⟨_, _, Tryd.func18, rfl, by decide⟩
instance : TFunc Tryd.prog 19 := ⟨_, _, Tryd.func19, rfl, by decide⟩
instance : TFunc Tryd.prog 20 := ⟨_, _, Tryd.func20, rfl, by decide⟩
instance : TFunc Tryd.prog 21 := ⟨_, _, Tryd.func21, rfl, by decide⟩
instance : TFunc Tryd.prog 22 := ⟨_, _, Tryd.func22, rfl, by decide⟩
instance : TFunc Tryd.prog 23 := ⟨_, _, Tryd.func23, rfl, by decide⟩
instance : TFunc Tryd.prog 24 := ⟨_, _, Tryd.func24, rfl, by decide⟩
instance : TFunc Tryd.prog 25 := ⟨_, _, Tryd.func25, rfl, by decide⟩
instance : TFunc Tryd.prog 26 := ⟨_, _, Tryd.func26, rfl, by decide⟩
instance : TFunc Tryd.prog 27 := ⟨_, _, Tryd.func27, rfl, by decide⟩
instance : TFunc Tryd.prog 28 := ⟨_, _, Tryd.func28, rfl, by decide⟩
instance : TFunc Tryd.prog 29 := ⟨_, _, Tryd.func29, rfl, by decide⟩
instance : TFunc Tryd.prog 30 := ⟨_, _, Tryd.func30, rfl, by decide⟩
instance : TFunc Tryd.prog 31 := ⟨_, _, Tryd.func31, rfl, by decide⟩
instance : TFunc Tryd.prog 32 := ⟨_, _, Tryd.func32, rfl, by decide⟩
instance : TFunc Tryd.prog 33 := ⟨_, _, Tryd.func33, rfl, by decide⟩
instance : TFunc Tryd.prog 34 := ⟨_, _, Tryd.func34, rfl, by decide⟩
instance : TFunc Tryd.prog 35 := ⟨_, _, Tryd.func35, rfl, by decide⟩
instance : TFunc Tryd.prog 36 := ⟨_, _, Tryd.func36, rfl, by decide⟩
instance : TFunc Tryd.prog 37 := ⟨_, _, Tryd.func37, rfl, by decide⟩
instance : TFunc Tryd.prog 38 := ⟨_, _, Tryd.func38, rfl, by decide⟩
instance : TFunc Tryd.prog 39 := ⟨_, _, Tryd.func39, rfl, by decide⟩
instance : TFunc Tryd.prog 40 := ⟨_, _, Tryd.func40, rfl, by decide⟩
instance : TFunc Tryd.prog 41 := ⟨_, _, Tryd.func41, rfl, by decide⟩
instance : TFunc Tryd.prog 45 := ⟨_, _, Tryd.func45, rfl, by decide⟩
instance : TFunc Tryd.prog 46 := ⟨_, _, Tryd.func46, rfl, by decide⟩
instance : TFunc Tryd.prog 47 := ⟨_, _, Tryd.func47, rfl, by decide⟩
instance : TFunc Tryd.prog 48 := ⟨_, _, Tryd.func48, rfl, by decide⟩
instance : TFunc Tryd.prog 49 := ⟨_, _, Tryd.func49, rfl, by decide⟩
instance : TFunc Tryd.prog 50 := ⟨_, _, Tryd.func50, rfl, by decide⟩
instance : TFunc Tryd.prog 51 := ⟨_, _, Tryd.func51, rfl, by decide⟩
instance : TFunc Tryd.prog 52 := ⟨_, _, Tryd.func52, rfl, by decide⟩
instance : TFunc Tryd.prog 53 := ⟨_, _, Tryd.func53, rfl, by decide⟩
instance : TFunc Tryd.prog 54 := ⟨_, _, Tryd.func54, rfl, by decide⟩
instance : TFunc Tryd.prog 55 := ⟨_, _, Tryd.func55, rfl, by decide⟩
instance : TFunc Tryd.prog 56 := ⟨_, _, Tryd.func56, rfl, by decide⟩
instance : TFunc Tryd.prog 57 := ⟨_, _, Tryd.func57, rfl, by decide⟩
instance : TFunc Tryd.prog 58 := ⟨_, _, Tryd.func58, rfl, by decide⟩
instance : TFunc Tryd.prog 63 := ⟨_, _, Tryd.func63, rfl, by decide⟩
instance : TFunc Tryd.prog 64 := ⟨_, _, Tryd.func64, rfl, by decide⟩
instance : TFunc Tryd.prog 65 := ⟨_, _, Tryd.func65, rfl, by decide⟩
instance : TFunc Tryd.prog 66 := ⟨_, _, Tryd.func66, rfl, by decide⟩
instance : TFunc Tryd.prog 67 := ⟨_, _, Tryd.func67, rfl, by decide⟩
instance : TFunc Tryd.prog 68 := ⟨_, _, Tryd.func68, rfl, by decide⟩
instance : TFunc Tryd.prog 69 := ⟨_, _, Tryd.func69, rfl, by decide⟩
instance : TFunc Tryd.prog 70 := ⟨_, _, Tryd.func70, rfl, by decide⟩
instance : TFunc Tryd.prog 71 := ⟨_, _, Tryd.func71, rfl, by decide⟩
instance : TFunc Tryd.prog 72 := ⟨_, _, Tryd.func72, rfl, by decide⟩
instance : TFunc Tryd.prog 73 := ⟨_, _, Tryd.func73, rfl, by decide⟩
instance : TFunc Tryd.prog 74 := ⟨_, _, Tryd.func74, rfl, by decide⟩
instance : TFunc Tryd.prog 75 := ⟨_, _, Tryd.func75, rfl, by decide⟩
instance : TFunc Tryd.prog 76 := ⟨_, _, Tryd.func76, rfl, by decide⟩
instance : TFunc Tryd.prog 77 := ⟨_, _, Tryd.func77, rfl, by decide⟩
instance : TFunc Tryd.prog 78 := ⟨_, _, Tryd.func78, rfl, by decide⟩
instance : TFunc Tryd.prog 79 := ⟨_, _, Tryd.func79, rfl, by decide⟩
instance : TFunc Tryd.prog 80 := ⟨_, _, Tryd.func80, rfl, by decide⟩
instance : TFunc Tryd.prog 100 := ⟨_, _, Tryd.func100, rfl, by decide⟩
instance : TFunc Tryd.prog 119 := ⟨_, _, Tryd.func119, rfl, by decide⟩
theorem mixed : Tryd.prog.follows .mixedOrders = true := by kernel_rfl
end Go.Proofs.YtgmdlhlmffdbhaaDoor.L
