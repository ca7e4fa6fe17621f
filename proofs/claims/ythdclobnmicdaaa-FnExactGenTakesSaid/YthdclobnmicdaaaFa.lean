/- Facts about the program's types and functions, each by computation. -/
import Derived.Test.YthdclobnmicdaaaF6
import Derived.Test.YthdclobnmicdaaaProg
namespace Go.Proofs.Ythdclobnmicdaaa
open Go Go.RowKit E
set_option linter.unusedVariables false
theorem lenT_50 : lenT Try.prog 50 = some false := by kernel_rfl
theorem fieldA_52_4 : fieldA Try.prog 52 4 = some 4 := by kernel_rfl
theorem aggA_50 : aggA Try.prog 50 = some false := by kernel_rfl
theorem call_73 : callable Try.prog 73 = true := by kernel_rfl
theorem lenT_34 : lenT Try.prog 34 = some false := by kernel_rfl
theorem fieldA_54_0 : fieldA Try.prog 54 0 = some 0 := by kernel_rfl
theorem aggA_34 : aggA Try.prog 34 = some false := by kernel_rfl
theorem call_74 : callable Try.prog 74 = true := by kernel_rfl
theorem fieldA_54_1 : fieldA Try.prog 54 1 = some 1 := by kernel_rfl
theorem zeroA_99 : zeroA Try.prog 99 = some (.agg #[(.int .i64 0), (.int .i64 0), (.int .i64 0), (.int .i64 0)]) := by kernel_rfl
theorem fieldA_132_0 : fieldA Try.prog 132 0 = some 0 := by kernel_rfl
theorem aggA_3 : aggA Try.prog 3 = some false := by kernel_rfl
theorem fieldA_99_0 : fieldA Try.prog 99 0 = some 0 := by kernel_rfl
theorem sizeA_3 : sizeA Try.prog 3 = some 1 := by kernel_rfl
theorem fieldA_132_1 : fieldA Try.prog 132 1 = some 1 := by kernel_rfl
theorem fieldA_99_1 : fieldA Try.prog 99 1 = some 1 := by kernel_rfl
theorem fieldA_132_2 : fieldA Try.prog 132 2 = some 2 := by kernel_rfl
theorem fieldA_99_2 : fieldA Try.prog 99 2 = some 2 := by kernel_rfl
theorem fieldA_132_3 : fieldA Try.prog 132 3 = some 3 := by kernel_rfl
theorem fieldA_99_3 : fieldA Try.prog 99 3 = some 3 := by kernel_rfl
theorem aggA_99 : aggA Try.prog 99 = some true := by kernel_rfl
theorem sizeA_99 : sizeA Try.prog 99 = some 4 := by kernel_rfl
theorem elemA_58 : elemA Try.prog 58 = some 99 := by kernel_rfl
theorem bytesA_99 : bytesA Try.prog 99 = some 32 := by kernel_rfl
theorem elemA_50 : elemA Try.prog 50 = some 132 := by kernel_rfl
theorem sizeA_132 : sizeA Try.prog 132 = some 4 := by kernel_rfl
theorem aggA_132 : aggA Try.prog 132 = some true := by kernel_rfl
theorem call_110 : callable Try.prog 110 = true := by kernel_rfl
theorem zeroA_60 : zeroA Try.prog 60 = some (.agg #[(.int .i64 0), (.int .i64 0), (.int .i64 0), (.int .i64 0), (.slice none 0 0)]) := by kernel_rfl
theorem fieldA_52_0 : fieldA Try.prog 52 0 = some 0 := by kernel_rfl
theorem fieldA_60_0 : fieldA Try.prog 60 0 = some 0 := by kernel_rfl
theorem fieldA_52_1 : fieldA Try.prog 52 1 = some 1 := by kernel_rfl
theorem fieldA_60_1 : fieldA Try.prog 60 1 = some 1 := by kernel_rfl
theorem fieldA_52_2 : fieldA Try.prog 52 2 = some 2 := by kernel_rfl
theorem fieldA_60_2 : fieldA Try.prog 60 2 = some 2 := by kernel_rfl
theorem fieldA_52_3 : fieldA Try.prog 52 3 = some 3 := by kernel_rfl
theorem fieldA_60_3 : fieldA Try.prog 60 3 = some 3 := by kernel_rfl
theorem call_81 : callable Try.prog 81 = true := by kernel_rfl
theorem fieldA_60_4 : fieldA Try.prog 60 4 = some 4 := by kernel_rfl
theorem sizeA_58 : sizeA Try.prog 58 = some 1 := by kernel_rfl
theorem aggA_60 : aggA Try.prog 60 = some true := by kernel_rfl
theorem sizeA_60 : sizeA Try.prog 60 = some 5 := by kernel_rfl
theorem elemA_34 : elemA Try.prog 34 = some 3 := by kernel_rfl
theorem bytesA_3 : bytesA Try.prog 3 = some 8 := by kernel_rfl
theorem zeroA_3 : zeroA Try.prog 3 = some (.int .i64 0) := by kernel_rfl
theorem zeroA_62 : zeroA Try.prog 62 = some (.agg #[(.slice none 0 0), (.slice none 0 0)]) := by kernel_rfl
theorem call_82 : callable Try.prog 82 = true := by kernel_rfl
theorem fieldA_62_0 : fieldA Try.prog 62 0 = some 0 := by kernel_rfl
theorem sizeA_34 : sizeA Try.prog 34 = some 1 := by kernel_rfl
theorem fieldA_62_1 : fieldA Try.prog 62 1 = some 1 := by kernel_rfl
theorem aggA_62 : aggA Try.prog 62 = some true := by kernel_rfl
theorem sizeA_62 : sizeA Try.prog 62 = some 2 := by kernel_rfl
theorem call_89 : callable Try.prog 89 = true := by kernel_rfl
theorem call_105 : callable Try.prog 105 = true := by kernel_rfl
theorem fieldA_73_0 : fieldA Try.prog 73 0 = some 0 := by kernel_rfl
theorem fieldA_73_1 : fieldA Try.prog 73 1 = some 1 := by kernel_rfl
theorem fieldA_73_2 : fieldA Try.prog 73 2 = some 2 := by kernel_rfl
theorem plan_73 : planA Try.prog 73 = some [(0, 1), (1, 1), (2, 1), (3, 1)] := by kernel_rfl
theorem zeroA_73 : zeroA Try.prog 73 = some (.agg #[(.int .i64 0), (.int .i64 0), (.int .i64 0), (.bool false)]) := by kernel_rfl
theorem call_90 : callable Try.prog 90 = true := by kernel_rfl
theorem mixed : Try.prog.follows .mixedOrders = true := by kernel_rfl
theorem call_61 : callable Try.prog 61 = true := by kernel_rfl
theorem aggA_58 : aggA Try.prog 58 = some false := by kernel_rfl
theorem lenT_58 : lenT Try.prog 58 = some false := by kernel_rfl
theorem call_62 : callable Try.prog 62 = true := by kernel_rfl
theorem call_106 : callable Try.prog 106 = true := by kernel_rfl
theorem call_107 : callable Try.prog 107 = true := by kernel_rfl
theorem call_47 : callable Try.prog 47 = true := by kernel_rfl
theorem call_78 : callable Try.prog 78 = true := by kernel_rfl
theorem call_48 : callable Try.prog 48 = true := by kernel_rfl
theorem call_80 : callable Try.prog 80 = true := by kernel_rfl
theorem call_79 : callable Try.prog 79 = true := by kernel_rfl
theorem call_123 : callable Try.prog 123 = true := by kernel_rfl
theorem call_108 : callable Try.prog 108 = true := by kernel_rfl
theorem call_109 : callable Try.prog 109 = true := by kernel_rfl
theorem elemA_130 : elemA Try.prog 130 = some 34 := by kernel_rfl
theorem zeroA_34 : zeroA Try.prog 34 = some (.slice none 0 0) := by kernel_rfl
theorem bytesA_34 : bytesA Try.prog 34 = some 24 := by kernel_rfl
theorem call_75 : callable Try.prog 75 = true := by kernel_rfl
theorem call_76 : callable Try.prog 76 = true := by kernel_rfl
theorem call_77 : callable Try.prog 77 = true := by kernel_rfl
theorem elemA_96 : elemA Try.prog 96 = some 4 := by kernel_rfl
theorem sizeA_4 : sizeA Try.prog 4 = some 1 := by kernel_rfl
theorem bytesA_4 : bytesA Try.prog 4 = some 1 := by kernel_rfl
theorem zeroA_4 : zeroA Try.prog 4 = some (.bool false) := by kernel_rfl
theorem aggA_4 : aggA Try.prog 4 = some false := by kernel_rfl
theorem call_59 : callable Try.prog 59 = true := by kernel_rfl
theorem und_3 : Try.prog.underlying 3 = some (.int .i64) := by kernel_rfl
theorem und_126 : Try.prog.underlying 126 = some (.int .u64) := by kernel_rfl
theorem call_112 : callable Try.prog 112 = true := by kernel_rfl
theorem call_57 : callable Try.prog 57 = true := by kernel_rfl
theorem call_58 : callable Try.prog 58 = true := by kernel_rfl
theorem call_124 : callable Try.prog 124 = true := by kernel_rfl
theorem call_120 : callable Try.prog 120 = true := by kernel_rfl
theorem call_119 : callable Try.prog 119 = true := by kernel_rfl
theorem call_92 : callable Try.prog 92 = true := by kernel_rfl
theorem call_111 : callable Try.prog 111 = true := by kernel_rfl
theorem call_113 : callable Try.prog 113 = true := by kernel_rfl
theorem elemA_114 : elemA Try.prog 114 = some 118 := by kernel_rfl
theorem sizeA_118 : sizeA Try.prog 118 = some 1 := by kernel_rfl
theorem bytesA_118 : bytesA Try.prog 118 = some 24 := by kernel_rfl
theorem zeroA_118 : zeroA Try.prog 118 = some (.slice none 0 0) := by kernel_rfl
theorem plan_116 : planA Try.prog 116 = some [(0, 1)] := by kernel_rfl
theorem zeroA_116 : zeroA Try.prog 116 = some (.agg #[(.slice none 0 0)]) := by kernel_rfl
theorem call_114 : callable Try.prog 114 = true := by kernel_rfl
theorem fieldA_116_0 : fieldA Try.prog 116 0 = some 0 := by kernel_rfl
theorem aggA_114 : aggA Try.prog 114 = some false := by kernel_rfl
theorem aggA_118 : aggA Try.prog 118 = some false := by kernel_rfl
theorem plan_120 : planA Try.prog 120 = some [(0, 1), (1, 1)] := by kernel_rfl
theorem zeroA_120 : zeroA Try.prog 120 = some (.agg #[(.int .i64 0), (.int .i64 0)]) := by kernel_rfl
theorem elemA_118 : elemA Try.prog 118 = some 120 := by kernel_rfl
theorem sizeA_120 : sizeA Try.prog 120 = some 2 := by kernel_rfl
theorem bytesA_120 : bytesA Try.prog 120 = some 16 := by kernel_rfl
theorem call_97 : callable Try.prog 97 = true := by kernel_rfl
theorem call_115 : callable Try.prog 115 = true := by kernel_rfl
theorem call_116 : callable Try.prog 116 = true := by kernel_rfl
theorem call_98 : callable Try.prog 98 = true := by kernel_rfl
theorem call_67 : callable Try.prog 67 = true := by kernel_rfl
theorem lenT_114 : lenT Try.prog 114 = some false := by kernel_rfl
theorem lenT_118 : lenT Try.prog 118 = some false := by kernel_rfl
theorem aggA_120 : aggA Try.prog 120 = some true := by kernel_rfl
theorem fieldA_120_0 : fieldA Try.prog 120 0 = some 0 := by kernel_rfl
theorem plan_137 : planA Try.prog 137 = some [(0, 1), (1, 1)] := by kernel_rfl
theorem zeroA_137 : zeroA Try.prog 137 = some (.agg #[(.int .i64 0), (.int .i64 0)]) := by kernel_rfl
theorem elemA_138 : elemA Try.prog 138 = some 137 := by kernel_rfl
theorem sizeA_137 : sizeA Try.prog 137 = some 2 := by kernel_rfl
theorem lenT_138 : lenT Try.prog 138 = some false := by kernel_rfl
theorem fieldA_137_1 : fieldA Try.prog 137 1 = some 1 := by kernel_rfl
theorem fieldA_137_0 : fieldA Try.prog 137 0 = some 0 := by kernel_rfl
theorem bytesA_137 : bytesA Try.prog 137 = some 16 := by kernel_rfl
theorem fieldA_120_1 : fieldA Try.prog 120 1 = some 1 := by kernel_rfl
theorem call_99 : callable Try.prog 99 = true := by kernel_rfl
theorem call_94 : callable Try.prog 94 = true := by kernel_rfl
theorem call_100 : callable Try.prog 100 = true := by kernel_rfl
theorem call_83 : callable Try.prog 83 = true := by kernel_rfl
theorem call_84 : callable Try.prog 84 = true := by kernel_rfl
theorem call_85 : callable Try.prog 85 = true := by kernel_rfl
theorem call_87 : callable Try.prog 87 = true := by kernel_rfl
theorem call_86 : callable Try.prog 86 = true := by kernel_rfl
theorem call_118 : callable Try.prog 118 = true := by kernel_rfl
theorem call_88 : callable Try.prog 88 = true := by kernel_rfl
theorem call_19 : callable Try.prog 19 = true := by kernel_rfl
theorem aggA_52 : aggA Try.prog 52 = some true := by kernel_rfl
theorem sizeA_52 : sizeA Try.prog 52 = some 5 := by kernel_rfl
theorem call_32 : callable Try.prog 32 = true := by kernel_rfl
theorem aggA_54 : aggA Try.prog 54 = some true := by kernel_rfl
theorem sizeA_54 : sizeA Try.prog 54 = some 2 := by kernel_rfl
theorem call_33 : callable Try.prog 33 = true := by kernel_rfl
theorem call_35 : callable Try.prog 35 = true := by kernel_rfl
theorem call_36 : callable Try.prog 36 = true := by kernel_rfl
theorem call_34 : callable Try.prog 34 = true := by kernel_rfl
theorem call_37 : callable Try.prog 37 = true := by kernel_rfl
theorem und_4 : Try.prog.underlying 4 = some .bool := by kernel_rfl
theorem call_38 : callable Try.prog 38 = true := by kernel_rfl
theorem call_39 : callable Try.prog 39 = true := by kernel_rfl
theorem cellsOf_3 : Try.prog.cellsOf 3 = 1 := by kernel_rfl
theorem cellsOf_132 : Try.prog.cellsOf 132 = 4 := by kernel_rfl
theorem cellsOf_50 : Try.prog.cellsOf 50 = 1 := by kernel_rfl
theorem cellsOf_52 : Try.prog.cellsOf 52 = 5 := by kernel_rfl
theorem cellsOf_34 : Try.prog.cellsOf 34 = 1 := by kernel_rfl
theorem cellsOf_54 : Try.prog.cellsOf 54 = 2 := by kernel_rfl
end Go.Proofs.Ythdclobnmicdaaa
