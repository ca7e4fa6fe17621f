/- Facts about the program's types and functions, each by computation. -/
import Derived.Test.YthdoebgikbfndaaF6
import Derived.Test.YthdoebgikbfndaaProg
namespace Go.Proofs.Ythdoebgikbfndaa
open Go Go.RowKit E
set_option linter.unusedVariables false
theorem lenT_22 : lenT Try.prog 22 = some false := by kernel_rfl
theorem zeroA_65 : zeroA Try.prog 65 = some (.agg #[(.int .i64 0), (.int .i64 0), (.int .i64 0)]) := by kernel_rfl
theorem fieldA_67_0 : fieldA Try.prog 67 0 = some 0 := by kernel_rfl
theorem aggA_3 : aggA Try.prog 3 = some false := by kernel_rfl
theorem fieldA_65_0 : fieldA Try.prog 65 0 = some 0 := by kernel_rfl
theorem sizeA_3 : sizeA Try.prog 3 = some 1 := by kernel_rfl
theorem fieldA_67_1 : fieldA Try.prog 67 1 = some 1 := by kernel_rfl
theorem fieldA_65_1 : fieldA Try.prog 65 1 = some 1 := by kernel_rfl
theorem fieldA_67_2 : fieldA Try.prog 67 2 = some 2 := by kernel_rfl
theorem fieldA_65_2 : fieldA Try.prog 65 2 = some 2 := by kernel_rfl
theorem aggA_65 : aggA Try.prog 65 = some true := by kernel_rfl
theorem sizeA_65 : sizeA Try.prog 65 = some 3 := by kernel_rfl
theorem elemA_29 : elemA Try.prog 29 = some 65 := by kernel_rfl
theorem bytesA_65 : bytesA Try.prog 65 = some 24 := by kernel_rfl
theorem elemA_22 : elemA Try.prog 22 = some 67 := by kernel_rfl
theorem sizeA_67 : sizeA Try.prog 67 = some 3 := by kernel_rfl
theorem aggA_67 : aggA Try.prog 67 = some true := by kernel_rfl
theorem call_34 : callable Try.prog 34 = true := by kernel_rfl
theorem call_29 : callable Try.prog 29 = true := by kernel_rfl
theorem elemA_47 : elemA Try.prog 47 = some 3 := by kernel_rfl
theorem zeroA_3 : zeroA Try.prog 3 = some (.int .i64 0) := by kernel_rfl
theorem lenT_29 : lenT Try.prog 29 = some false := by kernel_rfl
theorem bytesA_3 : bytesA Try.prog 3 = some 8 := by kernel_rfl
theorem mixed : Try.prog.follows .mixedOrders = true := by kernel_rfl
theorem call_74 : callable Try.prog 74 = true := by kernel_rfl
theorem lenT_47 : lenT Try.prog 47 = some false := by kernel_rfl
theorem call_72 : callable Try.prog 72 = true := by kernel_rfl
theorem call_73 : callable Try.prog 73 = true := by kernel_rfl
theorem call_28 : callable Try.prog 28 = true := by kernel_rfl
theorem call_71 : callable Try.prog 71 = true := by kernel_rfl
theorem call_75 : callable Try.prog 75 = true := by kernel_rfl
theorem elemA_57 : elemA Try.prog 57 = some 4 := by kernel_rfl
theorem sizeA_4 : sizeA Try.prog 4 = some 1 := by kernel_rfl
theorem zeroA_4 : zeroA Try.prog 4 = some (.bool false) := by kernel_rfl
theorem call_51 : callable Try.prog 51 = true := by kernel_rfl
theorem bytesA_4 : bytesA Try.prog 4 = some 1 := by kernel_rfl
theorem aggA_4 : aggA Try.prog 4 = some false := by kernel_rfl
theorem zeroA_26 : zeroA Try.prog 26 = some (.agg #[(.int .i64 0), (.int .i64 0), (.int .i64 0), (.int .i64 0), (.slice none 0 0)]) := by kernel_rfl
theorem fieldA_26_1 : fieldA Try.prog 26 1 = some 1 := by kernel_rfl
theorem fieldA_26_0 : fieldA Try.prog 26 0 = some 0 := by kernel_rfl
theorem elemA_24 : elemA Try.prog 24 = some 62 := by kernel_rfl
theorem sizeA_62 : sizeA Try.prog 62 = some 4 := by kernel_rfl
theorem zeroA_62 : zeroA Try.prog 62 = some (.agg #[(.int .i64 0), (.int .i64 0), (.int .i64 0), (.int .i64 0)]) := by kernel_rfl
theorem fieldA_26_4 : fieldA Try.prog 26 4 = some 4 := by kernel_rfl
theorem sizeA_24 : sizeA Try.prog 24 = some 1 := by kernel_rfl
theorem aggA_26 : aggA Try.prog 26 = some true := by kernel_rfl
theorem sizeA_26 : sizeA Try.prog 26 = some 5 := by kernel_rfl
theorem plan_62 : planA Try.prog 62 = some [(0, 1), (1, 1), (2, 1), (3, 1)] := by kernel_rfl
theorem bytesA_62 : bytesA Try.prog 62 = some 32 := by kernel_rfl
theorem aggA_24 : aggA Try.prog 24 = some false := by kernel_rfl
theorem lenT_24 : lenT Try.prog 24 = some false := by kernel_rfl
theorem aggA_62 : aggA Try.prog 62 = some true := by kernel_rfl
theorem fieldA_62_0 : fieldA Try.prog 62 0 = some 0 := by kernel_rfl
theorem fieldA_62_1 : fieldA Try.prog 62 1 = some 1 := by kernel_rfl
theorem fieldA_62_2 : fieldA Try.prog 62 2 = some 2 := by kernel_rfl
theorem fieldA_62_3 : fieldA Try.prog 62 3 = some 3 := by kernel_rfl
theorem call_27 : callable Try.prog 27 = true := by kernel_rfl
theorem call_30 : callable Try.prog 30 = true := by kernel_rfl
theorem plan_26 : planA Try.prog 26 = some [(0, 1), (1, 1), (2, 1), (3, 1), (4, 1)] := by kernel_rfl
theorem call_33 : callable Try.prog 33 = true := by kernel_rfl
theorem call_31 : callable Try.prog 31 = true := by kernel_rfl
theorem call_32 : callable Try.prog 32 = true := by kernel_rfl
theorem call_78 : callable Try.prog 78 = true := by kernel_rfl
theorem call_106 : callable Try.prog 106 = true := by kernel_rfl
theorem call_122 : callable Try.prog 122 = true := by kernel_rfl
theorem call_107 : callable Try.prog 107 = true := by kernel_rfl
theorem call_77 : callable Try.prog 77 = true := by kernel_rfl
theorem call_76 : callable Try.prog 76 = true := by kernel_rfl
theorem und_3 : Try.prog.underlying 3 = some (.int .i64) := by kernel_rfl
theorem und_93 : Try.prog.underlying 93 = some (.int .u64) := by kernel_rfl
theorem call_81 : callable Try.prog 81 = true := by kernel_rfl
theorem call_108 : callable Try.prog 108 = true := by kernel_rfl
theorem call_38 : callable Try.prog 38 = true := by kernel_rfl
theorem call_79 : callable Try.prog 79 = true := by kernel_rfl
theorem call_80 : callable Try.prog 80 = true := by kernel_rfl
theorem call_39 : callable Try.prog 39 = true := by kernel_rfl
theorem call_119 : callable Try.prog 119 = true := by kernel_rfl
theorem call_85 : callable Try.prog 85 = true := by kernel_rfl
theorem call_84 : callable Try.prog 84 = true := by kernel_rfl
theorem call_35 : callable Try.prog 35 = true := by kernel_rfl
theorem call_36 : callable Try.prog 36 = true := by kernel_rfl
theorem call_37 : callable Try.prog 37 = true := by kernel_rfl
theorem call_44 : callable Try.prog 44 = true := by kernel_rfl
theorem call_43 : callable Try.prog 43 = true := by kernel_rfl
theorem call_40 : callable Try.prog 40 = true := by kernel_rfl
theorem call_41 : callable Try.prog 41 = true := by kernel_rfl
theorem call_42 : callable Try.prog 42 = true := by kernel_rfl
theorem call_86 : callable Try.prog 86 = true := by kernel_rfl
theorem fieldA_26_2 : fieldA Try.prog 26 2 = some 2 := by kernel_rfl
theorem fieldA_26_3 : fieldA Try.prog 26 3 = some 3 := by kernel_rfl
theorem call_45 : callable Try.prog 45 = true := by kernel_rfl
theorem call_46 : callable Try.prog 46 = true := by kernel_rfl
theorem call_47 : callable Try.prog 47 = true := by kernel_rfl
theorem call_48 : callable Try.prog 48 = true := by kernel_rfl
theorem call_6 : callable Try.prog 6 = true := by kernel_rfl
theorem call_8 : callable Try.prog 8 = true := by kernel_rfl
theorem call_7 : callable Try.prog 7 = true := by kernel_rfl
theorem call_9 : callable Try.prog 9 = true := by kernel_rfl
theorem call_10 : callable Try.prog 10 = true := by kernel_rfl
theorem und_4 : Try.prog.underlying 4 = some .bool := by kernel_rfl
theorem call_11 : callable Try.prog 11 = true := by kernel_rfl
theorem call_12 : callable Try.prog 12 = true := by kernel_rfl
theorem call_13 : callable Try.prog 13 = true := by kernel_rfl
theorem call_14 : callable Try.prog 14 = true := by kernel_rfl
theorem cellsOf_3 : Try.prog.cellsOf 3 = 1 := by kernel_rfl
theorem cellsOf_67 : Try.prog.cellsOf 67 = 3 := by kernel_rfl
end Go.Proofs.Ythdoebgikbfndaa
