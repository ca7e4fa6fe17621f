/- Facts about the program's types and functions, each by computation. -/
import Derived.Test.YthdclobnmicdaaaF5
import Derived.Test.YthdclobnmicdaaaProg
namespace Go.Proofs.Ythdclobnmicdaaa
open Go Go.RowKit E
set_option linter.unusedVariables false
theorem lenT_39 : lenT Try.prog 39 = some false := by kernel_rfl
theorem plan_122 : planA Try.prog 122 = some [(0, 1), (1, 1), (2, 1)] := by kernel_rfl
theorem zeroA_122 : zeroA Try.prog 122 = some (.agg #[(.slice none 0 0), (.int .i64 0), (.int .i64 0)]) := by kernel_rfl
theorem elemA_39 : elemA Try.prog 39 = some 5 := by kernel_rfl
theorem sizeA_5 : sizeA Try.prog 5 = some 1 := by kernel_rfl
theorem aggA_5 : aggA Try.prog 5 = some false := by kernel_rfl
theorem und_5 : Try.prog.underlying 5 = some (.int .u8) := by kernel_rfl
theorem und_3 : Try.prog.underlying 3 = some (.int .i64) := by kernel_rfl
theorem fieldA_122_2 : fieldA Try.prog 122 2 = some 2 := by kernel_rfl
theorem aggA_3 : aggA Try.prog 3 = some false := by kernel_rfl
theorem sizeA_3 : sizeA Try.prog 3 = some 1 := by kernel_rfl
theorem mixed : Try.prog.follows .mixedOrders = true := by kernel_rfl
theorem fieldA_122_1 : fieldA Try.prog 122 1 = some 1 := by kernel_rfl
theorem fieldA_122_0 : fieldA Try.prog 122 0 = some 0 := by kernel_rfl
theorem aggA_39 : aggA Try.prog 39 = some false := by kernel_rfl
theorem call_103 : callable Try.prog 103 = true := by kernel_rfl
theorem lenT_34 : lenT Try.prog 34 = some false := by kernel_rfl
theorem call_55 : callable Try.prog 55 = true := by kernel_rfl
theorem elemA_34 : elemA Try.prog 34 = some 3 := by kernel_rfl
theorem elemA_27 : elemA Try.prog 27 = some 73 := by kernel_rfl
theorem sizeA_73 : sizeA Try.prog 73 = some 4 := by kernel_rfl
theorem zeroA_73 : zeroA Try.prog 73 = some (.agg #[(.int .i64 0), (.int .i64 0), (.int .i64 0), (.bool false)]) := by kernel_rfl
theorem call_56 : callable Try.prog 56 = true := by kernel_rfl
theorem plan_73 : planA Try.prog 73 = some [(0, 1), (1, 1), (2, 1), (3, 1)] := by kernel_rfl
theorem bytesA_73 : bytesA Try.prog 73 = some 32 := by kernel_rfl
theorem call_89 : callable Try.prog 89 = true := by kernel_rfl
theorem call_105 : callable Try.prog 105 = true := by kernel_rfl
theorem fieldA_73_0 : fieldA Try.prog 73 0 = some 0 := by kernel_rfl
theorem fieldA_73_1 : fieldA Try.prog 73 1 = some 1 := by kernel_rfl
theorem fieldA_73_2 : fieldA Try.prog 73 2 = some 2 := by kernel_rfl
theorem fieldA_29_0 : fieldA Try.prog 29 0 = some 0 := by kernel_rfl
theorem fieldA_29_1 : fieldA Try.prog 29 1 = some 1 := by kernel_rfl
theorem fieldA_29_2 : fieldA Try.prog 29 2 = some 2 := by kernel_rfl
theorem call_61 : callable Try.prog 61 = true := by kernel_rfl
theorem fieldA_29_3 : fieldA Try.prog 29 3 = some 3 := by kernel_rfl
theorem aggA_27 : aggA Try.prog 27 = some false := by kernel_rfl
theorem lenT_27 : lenT Try.prog 27 = some false := by kernel_rfl
theorem aggA_73 : aggA Try.prog 73 = some true := by kernel_rfl
theorem call_62 : callable Try.prog 62 = true := by kernel_rfl
theorem call_90 : callable Try.prog 90 = true := by kernel_rfl
theorem zeroA_29 : zeroA Try.prog 29 = some (.agg #[(.int .i64 0), (.int .i64 0), (.int .i64 0), (.slice none 0 0)]) := by kernel_rfl
theorem plan_29 : planA Try.prog 29 = some [(0, 1), (1, 1), (2, 1), (3, 1)] := by kernel_rfl
theorem sizeA_29 : sizeA Try.prog 29 = some 4 := by kernel_rfl
theorem aggA_29 : aggA Try.prog 29 = some true := by kernel_rfl
theorem call_41 : callable Try.prog 41 = true := by kernel_rfl
theorem bytesA_3 : bytesA Try.prog 3 = some 8 := by kernel_rfl
theorem zeroA_3 : zeroA Try.prog 3 = some (.int .i64 0) := by kernel_rfl
theorem sizeA_27 : sizeA Try.prog 27 = some 1 := by kernel_rfl
theorem call_125 : callable Try.prog 125 = true := by kernel_rfl
theorem fieldA_73_3 : fieldA Try.prog 73 3 = some 3 := by kernel_rfl
theorem aggA_4 : aggA Try.prog 4 = some false := by kernel_rfl
theorem call_122 : callable Try.prog 122 = true := by kernel_rfl
theorem call_121 : callable Try.prog 121 = true := by kernel_rfl
theorem call_102 : callable Try.prog 102 = true := by kernel_rfl
theorem call_101 : callable Try.prog 101 = true := by kernel_rfl
theorem call_53 : callable Try.prog 53 = true := by kernel_rfl
theorem call_54 : callable Try.prog 54 = true := by kernel_rfl
theorem call_59 : callable Try.prog 59 = true := by kernel_rfl
theorem und_126 : Try.prog.underlying 126 = some (.int .u64) := by kernel_rfl
theorem call_112 : callable Try.prog 112 = true := by kernel_rfl
theorem call_57 : callable Try.prog 57 = true := by kernel_rfl
theorem call_58 : callable Try.prog 58 = true := by kernel_rfl
theorem call_124 : callable Try.prog 124 = true := by kernel_rfl
theorem call_120 : callable Try.prog 120 = true := by kernel_rfl
theorem call_119 : callable Try.prog 119 = true := by kernel_rfl
theorem call_92 : callable Try.prog 92 = true := by kernel_rfl
theorem call_93 : callable Try.prog 93 = true := by kernel_rfl
theorem elemA_114 : elemA Try.prog 114 = some 118 := by kernel_rfl
theorem sizeA_118 : sizeA Try.prog 118 = some 1 := by kernel_rfl
theorem bytesA_118 : bytesA Try.prog 118 = some 24 := by kernel_rfl
theorem zeroA_118 : zeroA Try.prog 118 = some (.slice none 0 0) := by kernel_rfl
theorem plan_116 : planA Try.prog 116 = some [(0, 1)] := by kernel_rfl
theorem zeroA_116 : zeroA Try.prog 116 = some (.agg #[(.slice none 0 0)]) := by kernel_rfl
theorem fieldA_116_0 : fieldA Try.prog 116 0 = some 0 := by kernel_rfl
theorem aggA_114 : aggA Try.prog 114 = some false := by kernel_rfl
theorem aggA_118 : aggA Try.prog 118 = some false := by kernel_rfl
theorem plan_120 : planA Try.prog 120 = some [(0, 1), (1, 1)] := by kernel_rfl
theorem zeroA_120 : zeroA Try.prog 120 = some (.agg #[(.int .i64 0), (.int .i64 0)]) := by kernel_rfl
theorem elemA_118 : elemA Try.prog 118 = some 120 := by kernel_rfl
theorem sizeA_120 : sizeA Try.prog 120 = some 2 := by kernel_rfl
theorem bytesA_120 : bytesA Try.prog 120 = some 16 := by kernel_rfl
theorem call_97 : callable Try.prog 97 = true := by kernel_rfl
theorem call_98 : callable Try.prog 98 = true := by kernel_rfl
theorem lenT_114 : lenT Try.prog 114 = some false := by kernel_rfl
theorem lenT_118 : lenT Try.prog 118 = some false := by kernel_rfl
theorem aggA_120 : aggA Try.prog 120 = some true := by kernel_rfl
theorem fieldA_120_0 : fieldA Try.prog 120 0 = some 0 := by kernel_rfl
theorem fieldA_120_1 : fieldA Try.prog 120 1 = some 1 := by kernel_rfl
theorem call_67 : callable Try.prog 67 = true := by kernel_rfl
theorem aggA_34 : aggA Try.prog 34 = some false := by kernel_rfl
theorem call_49 : callable Try.prog 49 = true := by kernel_rfl
theorem call_94 : callable Try.prog 94 = true := by kernel_rfl
theorem call_95 : callable Try.prog 95 = true := by kernel_rfl
theorem zeroA_34 : zeroA Try.prog 34 = some (.slice none 0 0) := by kernel_rfl
theorem sizeA_34 : sizeA Try.prog 34 = some 1 := by kernel_rfl
theorem call_104 : callable Try.prog 104 = true := by kernel_rfl
theorem call_68 : callable Try.prog 68 = true := by kernel_rfl
theorem call_87 : callable Try.prog 87 = true := by kernel_rfl
theorem call_43 : callable Try.prog 43 = true := by kernel_rfl
theorem call_60 : callable Try.prog 60 = true := by kernel_rfl
theorem call_47 : callable Try.prog 47 = true := by kernel_rfl
theorem call_48 : callable Try.prog 48 = true := by kernel_rfl
theorem call_63 : callable Try.prog 63 = true := by kernel_rfl
theorem call_64 : callable Try.prog 64 = true := by kernel_rfl
theorem call_65 : callable Try.prog 65 = true := by kernel_rfl
theorem call_66 : callable Try.prog 66 = true := by kernel_rfl
theorem call_23 : callable Try.prog 23 = true := by kernel_rfl
theorem call_24 : callable Try.prog 24 = true := by kernel_rfl
theorem call_25 : callable Try.prog 25 = true := by kernel_rfl
theorem call_26 : callable Try.prog 26 = true := by kernel_rfl
theorem und_4 : Try.prog.underlying 4 = some .bool := by kernel_rfl
theorem call_27 : callable Try.prog 27 = true := by kernel_rfl
theorem call_28 : callable Try.prog 28 = true := by kernel_rfl
theorem cellsOf_5 : Try.prog.cellsOf 5 = 1 := by kernel_rfl
end Go.Proofs.Ythdclobnmicdaaa
