/- Facts about the program's types and functions, each by computation. -/
import Derived.Test.YthdoebgikbfndaaF6
import Derived.Test.YthdoebgikbfndaaProg
namespace Go.Proofs.Ythdoebgikbfndaa
open Go Go.RowKit E
set_option linter.unusedVariables false
theorem lenT_22 : lenT Try.prog 22 = some false := by kernel_rfl
theorem zeroA_65 : zeroA Try.prog 65 = some (.agg #[(.int .i64 0), (.int .i64 0), (.int .i64 0)]) := by kernel_rfl
theorem fieldA_67_0 : fieldA Try.prog 67 0 = some 0 := by kernel_rfl
theorem aggA_3 : aggA Try.prog 3 = some false := by kernel_rfl
theorem fieldA_65_0 : fieldA Try.prog 65 0 = some 0 := by kernel_rfl
theorem sizeA_3 : sizeA Try.prog 3 = some 1 := by kernel_rfl
theorem fieldA_67_1 : fieldA Try.prog 67 1 = some 1 := by kernel_rfl
theorem fieldA_65_1 : fieldA Try.prog 65 1 = some 1 := by kernel_rfl
theorem fieldA_67_2 : fieldA Try.prog 67 2 = some 2 := by kernel_rfl
theorem fieldA_65_2 : fieldA Try.prog 65 2 = some 2 := by kernel_rfl
theorem aggA_65 : aggA Try.prog 65 = some true := by kernel_rfl
theorem sizeA_65 : sizeA Try.prog 65 = some 3 := by kernel_rfl
theorem elemA_29 : elemA Try.prog 29 = some 65 := by kernel_rfl
theorem bytesA_65 : bytesA Try.prog 65 = some 24 := by kernel_rfl
theorem elemA_22 : elemA Try.prog 22 = some 67 := by kernel_rfl
theorem sizeA_67 : sizeA Try.prog 67 = some 3 := by kernel_rfl
theorem aggA_67 : aggA Try.prog 67 = some true := by kernel_rfl
theorem call_34 : callable Try.prog 34 = true := by kernel_rfl
theorem call_29 : callable Try.prog 29 = true := by kernel_rfl
theorem elemA_47 : elemA Try.prog 47 = some 3 := by kernel_rfl
theorem zeroA_3 : zeroA Try.prog 3 = some (.int .i64 0) := by kernel_rfl
theorem lenT_29 : lenT Try.prog 29 = some false := by kernel_rfl
theorem bytesA_3 : bytesA Try.prog 3 = some 8 := by kernel_rfl
theorem mixed : Try.prog.follows .mixedOrders = true := by kernel_rfl
theorem call_74 : callable Try.prog 74 = true := by kernel_rfl
theorem lenT_47 : lenT Try.prog 47 = some false := by kernel_rfl
theorem call_87 : callable Try.prog 87 = true := by kernel_rfl
theorem call_88 : callable Try.prog 88 = true := by kernel_rfl
theorem call_89 : callable Try.prog 89 = true := by kernel_rfl
theorem call_75 : callable Try.prog 75 = true := by kernel_rfl
theorem call_50 : callable Try.prog 50 = true := by kernel_rfl
theorem call_135 : callable Try.prog 135 = true := by kernel_rfl
theorem fieldA_79_0 : fieldA Try.prog 79 0 = some 0 := by kernel_rfl
theorem fieldA_79_1 : fieldA Try.prog 79 1 = some 1 := by kernel_rfl
theorem fieldA_79_2 : fieldA Try.prog 79 2 = some 2 := by kernel_rfl
theorem fieldA_38_0 : fieldA Try.prog 38 0 = some 0 := by kernel_rfl
theorem fieldA_38_1 : fieldA Try.prog 38 1 = some 1 := by kernel_rfl
theorem fieldA_38_2 : fieldA Try.prog 38 2 = some 2 := by kernel_rfl
theorem call_120 : callable Try.prog 120 = true := by kernel_rfl
theorem fieldA_38_3 : fieldA Try.prog 38 3 = some 3 := by kernel_rfl
theorem aggA_36 : aggA Try.prog 36 = some false := by kernel_rfl
theorem lenT_36 : lenT Try.prog 36 = some false := by kernel_rfl
theorem elemA_36 : elemA Try.prog 36 = some 79 := by kernel_rfl
theorem sizeA_79 : sizeA Try.prog 79 = some 4 := by kernel_rfl
theorem aggA_79 : aggA Try.prog 79 = some true := by kernel_rfl
theorem zeroA_79 : zeroA Try.prog 79 = some (.agg #[(.int .i64 0), (.int .i64 0), (.int .i64 0), (.bool false)]) := by kernel_rfl
theorem call_91 : callable Try.prog 91 = true := by kernel_rfl
theorem call_121 : callable Try.prog 121 = true := by kernel_rfl
theorem zeroA_38 : zeroA Try.prog 38 = some (.agg #[(.int .i64 0), (.int .i64 0), (.int .i64 0), (.slice none 0 0)]) := by kernel_rfl
theorem plan_38 : planA Try.prog 38 = some [(0, 1), (1, 1), (2, 1), (3, 1)] := by kernel_rfl
theorem sizeA_38 : sizeA Try.prog 38 = some 4 := by kernel_rfl
theorem aggA_38 : aggA Try.prog 38 = some true := by kernel_rfl
theorem call_90 : callable Try.prog 90 = true := by kernel_rfl
theorem plan_79 : planA Try.prog 79 = some [(0, 1), (1, 1), (2, 1), (3, 1)] := by kernel_rfl
theorem bytesA_79 : bytesA Try.prog 79 = some 32 := by kernel_rfl
theorem sizeA_36 : sizeA Try.prog 36 = some 1 := by kernel_rfl
theorem call_92 : callable Try.prog 92 = true := by kernel_rfl
theorem fieldA_79_3 : fieldA Try.prog 79 3 = some 3 := by kernel_rfl
theorem aggA_4 : aggA Try.prog 4 = some false := by kernel_rfl
theorem call_49 : callable Try.prog 49 = true := by kernel_rfl
theorem zeroA_40 : zeroA Try.prog 40 = some (.agg #[(.int .i64 0), (.int .i64 0), (.int .i64 0), (.slice none 0 0), (.int .i64 0)]) := by kernel_rfl
theorem plan_40 : planA Try.prog 40 = some [(0, 4), (4, 1)] := by kernel_rfl
theorem sizeA_40 : sizeA Try.prog 40 = some 5 := by kernel_rfl
theorem aggA_40 : aggA Try.prog 40 = some true := by kernel_rfl
theorem call_52 : callable Try.prog 52 = true := by kernel_rfl
theorem call_53 : callable Try.prog 53 = true := by kernel_rfl
theorem fieldA_40_1 : fieldA Try.prog 40 1 = some 4 := by kernel_rfl
theorem call_51 : callable Try.prog 51 = true := by kernel_rfl
theorem call_78 : callable Try.prog 78 = true := by kernel_rfl
theorem call_106 : callable Try.prog 106 = true := by kernel_rfl
theorem call_122 : callable Try.prog 122 = true := by kernel_rfl
theorem call_93 : callable Try.prog 93 = true := by kernel_rfl
theorem call_76 : callable Try.prog 76 = true := by kernel_rfl
theorem und_3 : Try.prog.underlying 3 = some (.int .i64) := by kernel_rfl
theorem und_93 : Try.prog.underlying 93 = some (.int .u64) := by kernel_rfl
theorem call_81 : callable Try.prog 81 = true := by kernel_rfl
theorem fieldA_111_3 : fieldA Try.prog 111 3 = some 3 := by kernel_rfl
theorem arrA_109 : arrA Try.prog 109 = some (32, 3, 1) := by kernel_rfl
theorem zeroA_111 : zeroA Try.prog 111 = some (.agg #[(.bool false), (.int .i64 0), (.int .i64 0), (.int .i64 0), (.int .i64 0), (.int .i64 0), (.int .i64 0), (.int .i64 0), (.int .i64 0), (.int .i64 0), (.int .i64 0), (.int .i64 0), (.int .i64 0), (.int .i64 0), (.int .i64 0), (.int .i64 0), (.int .i64 0), (.int .i64 0), (.int .i64 0), (.int .i64 0), (.int .i64 0), (.int .i64 0), (.int .i64 0), (.int .i64 0), (.int .i64 0), (.int .i64 0), (.int .i64 0), (.int .i64 0), (.int .i64 0), (.int .i64 0), (.int .i64 0), (.int .i64 0), (.int .i64 0), (.int .i64 0), (.int .i64 0)]) := by kernel_rfl
theorem fieldA_111_0 : fieldA Try.prog 111 0 = some 0 := by kernel_rfl
theorem fieldA_111_1 : fieldA Try.prog 111 1 = some 1 := by kernel_rfl
theorem fieldA_111_2 : fieldA Try.prog 111 2 = some 2 := by kernel_rfl
theorem plan_111 : planA Try.prog 111 = some [(0, 1), (1, 1), (2, 1), (3, 32)] := by kernel_rfl
theorem sizeA_111 : sizeA Try.prog 111 = some 35 := by kernel_rfl
theorem call_123 : callable Try.prog 123 = true := by kernel_rfl
theorem aggA_111 : aggA Try.prog 111 = some true := by kernel_rfl
theorem elemA_141 : elemA Try.prog 141 = some 111 := by kernel_rfl
theorem bytesA_111 : bytesA Try.prog 111 = some 280 := by kernel_rfl
theorem call_39 : callable Try.prog 39 = true := by kernel_rfl
theorem sizeA_4 : sizeA Try.prog 4 = some 1 := by kernel_rfl
theorem call_124 : callable Try.prog 124 = true := by kernel_rfl
theorem call_125 : callable Try.prog 125 = true := by kernel_rfl
theorem fieldA_40_0 : fieldA Try.prog 40 0 = some 0 := by kernel_rfl
theorem aggA_47 : aggA Try.prog 47 = some false := by kernel_rfl
theorem und_36 : Try.prog.underlying 36 = some (.slice 79) := by kernel_rfl
theorem call_119 : callable Try.prog 119 = true := by kernel_rfl
theorem call_85 : callable Try.prog 85 = true := by kernel_rfl
theorem call_84 : callable Try.prog 84 = true := by kernel_rfl
theorem call_126 : callable Try.prog 126 = true := by kernel_rfl
theorem call_105 : callable Try.prog 105 = true := by kernel_rfl
theorem call_127 : callable Try.prog 127 = true := by kernel_rfl
theorem call_94 : callable Try.prog 94 = true := by kernel_rfl
theorem zeroA_47 : zeroA Try.prog 47 = some (.slice none 0 0) := by kernel_rfl
theorem sizeA_47 : sizeA Try.prog 47 = some 1 := by kernel_rfl
theorem call_96 : callable Try.prog 96 = true := by kernel_rfl
theorem call_95 : callable Try.prog 95 = true := by kernel_rfl
theorem call_54 : callable Try.prog 54 = true := by kernel_rfl
theorem call_68 : callable Try.prog 68 = true := by kernel_rfl
theorem call_104 : callable Try.prog 104 = true := by kernel_rfl
theorem call_67 : callable Try.prog 67 = true := by kernel_rfl
theorem call_55 : callable Try.prog 55 = true := by kernel_rfl
theorem call_56 : callable Try.prog 56 = true := by kernel_rfl
theorem call_25 : callable Try.prog 25 = true := by kernel_rfl
theorem und_4 : Try.prog.underlying 4 = some .bool := by kernel_rfl
theorem call_128 : callable Try.prog 128 = true := by kernel_rfl
theorem call_97 : callable Try.prog 97 = true := by kernel_rfl
theorem call_57 : callable Try.prog 57 = true := by kernel_rfl
theorem call_46 : callable Try.prog 46 = true := by kernel_rfl
theorem call_98 : callable Try.prog 98 = true := by kernel_rfl
theorem call_58 : callable Try.prog 58 = true := by kernel_rfl
theorem call_99 : callable Try.prog 99 = true := by kernel_rfl
theorem call_59 : callable Try.prog 59 = true := by kernel_rfl
theorem call_6 : callable Try.prog 6 = true := by kernel_rfl
theorem call_8 : callable Try.prog 8 = true := by kernel_rfl
theorem call_15 : callable Try.prog 15 = true := by kernel_rfl
theorem call_16 : callable Try.prog 16 = true := by kernel_rfl
theorem call_17 : callable Try.prog 17 = true := by kernel_rfl
theorem call_11 : callable Try.prog 11 = true := by kernel_rfl
theorem call_12 : callable Try.prog 12 = true := by kernel_rfl
theorem call_18 : callable Try.prog 18 = true := by kernel_rfl
theorem call_19 : callable Try.prog 19 = true := by kernel_rfl
theorem cellsOf_3 : Try.prog.cellsOf 3 = 1 := by kernel_rfl
theorem cellsOf_67 : Try.prog.cellsOf 67 = 3 := by kernel_rfl
end Go.Proofs.Ythdoebgikbfndaa
