/- Facts about the program's types and functions, each by computation. -/
import Derived.Test.YtjjlkncefgfljaaF6
import Derived.Test.YtjjlkncefgfljaaProg
namespace Go.Proofs.Ytjjlkncefgfljaa
open Go Go.RowKit E
set_option linter.unusedVariables false
theorem lenT_22 : lenT Try.prog 22 = some false := by kernel_rfl
theorem plan_105 : planA Try.prog 105 = some [(0, 1), (1, 1), (2, 1)] := by kernel_rfl
theorem zeroA_105 : zeroA Try.prog 105 = some (.agg #[(.slice none 0 0), (.int .i64 0), (.int .i64 0)]) := by kernel_rfl
theorem elemA_22 : elemA Try.prog 22 = some 5 := by kernel_rfl
theorem sizeA_5 : sizeA Try.prog 5 = some 1 := by kernel_rfl
theorem aggA_5 : aggA Try.prog 5 = some false := by kernel_rfl
theorem und_5 : Try.prog.underlying 5 = some (.int .u8) := by kernel_rfl
theorem und_3 : Try.prog.underlying 3 = some (.int .i64) := by kernel_rfl
theorem fieldA_105_2 : fieldA Try.prog 105 2 = some 2 := by kernel_rfl
theorem aggA_3 : aggA Try.prog 3 = some false := by kernel_rfl
theorem sizeA_3 : sizeA Try.prog 3 = some 1 := by kernel_rfl
theorem mixed : Try.prog.follows .mixedOrders = true := by kernel_rfl
theorem fieldA_105_1 : fieldA Try.prog 105 1 = some 1 := by kernel_rfl
theorem fieldA_105_0 : fieldA Try.prog 105 0 = some 0 := by kernel_rfl
theorem aggA_22 : aggA Try.prog 22 = some false := by kernel_rfl
theorem call_117 : callable Try.prog 117 = true := by kernel_rfl
theorem elemA_32 : elemA Try.prog 32 = some 3 := by kernel_rfl
theorem zeroA_3 : zeroA Try.prog 3 = some (.int .i64 0) := by kernel_rfl
theorem lenT_24 : lenT Try.prog 24 = some false := by kernel_rfl
theorem elemA_24 : elemA Try.prog 24 = some 59 := by kernel_rfl
theorem sizeA_59 : sizeA Try.prog 59 = some 3 := by kernel_rfl
theorem fieldA_59_0 : fieldA Try.prog 59 0 = some 0 := by kernel_rfl
theorem bytesA_3 : bytesA Try.prog 3 = some 8 := by kernel_rfl
theorem lenT_32 : lenT Try.prog 32 = some false := by kernel_rfl
theorem call_97 : callable Try.prog 97 = true := by kernel_rfl
theorem plan_59 : planA Try.prog 59 = some [(0, 1), (1, 1), (2, 1)] := by kernel_rfl
theorem zeroA_59 : zeroA Try.prog 59 = some (.agg #[(.int .i64 0), (.int .i64 0), (.int .i64 0)]) := by kernel_rfl
theorem bytesA_59 : bytesA Try.prog 59 = some 24 := by kernel_rfl
theorem call_118 : callable Try.prog 118 = true := by kernel_rfl
theorem call_51 : callable Try.prog 51 = true := by kernel_rfl
theorem call_58 : callable Try.prog 58 = true := by kernel_rfl
theorem call_63 : callable Try.prog 63 = true := by kernel_rfl
theorem call_98 : callable Try.prog 98 = true := by kernel_rfl
theorem fieldA_59_1 : fieldA Try.prog 59 1 = some 1 := by kernel_rfl
theorem fieldA_59_2 : fieldA Try.prog 59 2 = some 2 := by kernel_rfl
theorem call_86 : callable Try.prog 86 = true := by kernel_rfl
theorem fieldA_41_0 : fieldA Try.prog 41 0 = some 0 := by kernel_rfl
theorem aggA_32 : aggA Try.prog 32 = some false := by kernel_rfl
theorem fieldA_41_1 : fieldA Try.prog 41 1 = some 1 := by kernel_rfl
theorem call_89 : callable Try.prog 89 = true := by kernel_rfl
theorem aggA_41 : aggA Try.prog 41 = some true := by kernel_rfl
theorem sizeA_41 : sizeA Try.prog 41 = some 2 := by kernel_rfl
theorem call_44 : callable Try.prog 44 = true := by kernel_rfl
theorem zeroA_41 : zeroA Try.prog 41 = some (.agg #[(.slice none 0 0), (.slice none 0 0)]) := by kernel_rfl
theorem call_72 : callable Try.prog 72 = true := by kernel_rfl
theorem plan_41 : planA Try.prog 41 = some [(0, 1), (1, 1)] := by kernel_rfl
theorem call_132 : callable Try.prog 132 = true := by kernel_rfl
theorem sizeA_32 : sizeA Try.prog 32 = some 1 := by kernel_rfl
theorem call_129 : callable Try.prog 129 = true := by kernel_rfl
theorem call_111 : callable Try.prog 111 = true := by kernel_rfl
theorem call_131 : callable Try.prog 131 = true := by kernel_rfl
theorem call_130 : callable Try.prog 130 = true := by kernel_rfl
theorem call_127 : callable Try.prog 127 = true := by kernel_rfl
theorem call_50 : callable Try.prog 50 = true := by kernel_rfl
theorem call_52 : callable Try.prog 52 = true := by kernel_rfl
theorem call_107 : callable Try.prog 107 = true := by kernel_rfl
theorem call_78 : callable Try.prog 78 = true := by kernel_rfl
theorem call_85 : callable Try.prog 85 = true := by kernel_rfl
theorem call_90 : callable Try.prog 90 = true := by kernel_rfl
theorem aggA_59 : aggA Try.prog 59 = some true := by kernel_rfl
theorem call_100 : callable Try.prog 100 = true := by kernel_rfl
theorem call_119 : callable Try.prog 119 = true := by kernel_rfl
theorem call_99 : callable Try.prog 99 = true := by kernel_rfl
theorem call_53 : callable Try.prog 53 = true := by kernel_rfl
theorem call_60 : callable Try.prog 60 = true := by kernel_rfl
theorem call_120 : callable Try.prog 120 = true := by kernel_rfl
theorem call_121 : callable Try.prog 121 = true := by kernel_rfl
theorem call_103 : callable Try.prog 103 = true := by kernel_rfl
theorem call_122 : callable Try.prog 122 = true := by kernel_rfl
theorem lenT_48 : lenT Try.prog 48 = some false := by kernel_rfl
theorem elemA_56 : elemA Try.prog 56 = some 4 := by kernel_rfl
theorem sizeA_4 : sizeA Try.prog 4 = some 1 := by kernel_rfl
theorem bytesA_4 : bytesA Try.prog 4 = some 1 := by kernel_rfl
theorem zeroA_4 : zeroA Try.prog 4 = some (.bool false) := by kernel_rfl
theorem arrA_130 : arrA Try.prog 130 = some (2, 3, 1) := by kernel_rfl
theorem zeroA_130 : zeroA Try.prog 130 = some (.agg #[(.int .i64 0), (.int .i64 0)]) := by kernel_rfl
theorem elemA_48 : elemA Try.prog 48 = some 56 := by kernel_rfl
theorem sizeA_56 : sizeA Try.prog 56 = some 1 := by kernel_rfl
theorem aggA_56 : aggA Try.prog 56 = some false := by kernel_rfl
theorem aggA_4 : aggA Try.prog 4 = some false := by kernel_rfl
theorem und_118 : Try.prog.underlying 118 = some (.int .u64) := by kernel_rfl
theorem call_110 : callable Try.prog 110 = true := by kernel_rfl
theorem call_128 : callable Try.prog 128 = true := by kernel_rfl
theorem lenT_56 : lenT Try.prog 56 = some false := by kernel_rfl
theorem call_123 : callable Try.prog 123 = true := by kernel_rfl
theorem call_124 : callable Try.prog 124 = true := by kernel_rfl
theorem call_125 : callable Try.prog 125 = true := by kernel_rfl
theorem call_109 : callable Try.prog 109 = true := by kernel_rfl
theorem call_104 : callable Try.prog 104 = true := by kernel_rfl
theorem zeroA_56 : zeroA Try.prog 56 = some (.slice none 0 0) := by kernel_rfl
theorem bytesA_56 : bytesA Try.prog 56 = some 24 := by kernel_rfl
theorem call_16 : callable Try.prog 16 = true := by kernel_rfl
theorem call_67 : callable Try.prog 67 = true := by kernel_rfl
theorem call_68 : callable Try.prog 68 = true := by kernel_rfl
theorem call_69 : callable Try.prog 69 = true := by kernel_rfl
theorem call_88 : callable Try.prog 88 = true := by kernel_rfl
theorem call_56 : callable Try.prog 56 = true := by kernel_rfl
theorem call_87 : callable Try.prog 87 = true := by kernel_rfl
theorem call_105 : callable Try.prog 105 = true := by kernel_rfl
theorem call_126 : callable Try.prog 126 = true := by kernel_rfl
theorem call_84 : callable Try.prog 84 = true := by kernel_rfl
theorem call_106 : callable Try.prog 106 = true := by kernel_rfl
theorem call_43 : callable Try.prog 43 = true := by kernel_rfl
theorem call_73 : callable Try.prog 73 = true := by kernel_rfl
theorem call_30 : callable Try.prog 30 = true := by kernel_rfl
theorem und_32 : Try.prog.underlying 32 = some (.slice 3) := by kernel_rfl
theorem call_93 : callable Try.prog 93 = true := by kernel_rfl
theorem call_112 : callable Try.prog 112 = true := by kernel_rfl
theorem lenT_120 : lenT Try.prog 120 = some false := by kernel_rfl
theorem elemA_120 : elemA Try.prog 120 = some 32 := by kernel_rfl
theorem call_91 : callable Try.prog 91 = true := by kernel_rfl
theorem zeroA_32 : zeroA Try.prog 32 = some (.slice none 0 0) := by kernel_rfl
theorem call_92 : callable Try.prog 92 = true := by kernel_rfl
theorem call_25 : callable Try.prog 25 = true := by kernel_rfl
theorem fieldA_75_3 : fieldA Try.prog 75 3 = some 3 := by kernel_rfl
theorem aggA_24 : aggA Try.prog 24 = some false := by kernel_rfl
theorem sizeA_24 : sizeA Try.prog 24 = some 1 := by kernel_rfl
theorem plan_75 : planA Try.prog 75 = some [(0, 1), (1, 1), (2, 1), (3, 1), (4, 1)] := by kernel_rfl
theorem zeroA_75 : zeroA Try.prog 75 = some (.agg #[(.string ⟨#[]⟩), (.int .i64 0), (.int .i64 0), (.slice none 0 0), .nilFunc]) := by kernel_rfl
theorem call_59 : callable Try.prog 59 = true := by kernel_rfl
theorem call_55 : callable Try.prog 55 = true := by kernel_rfl
theorem call_113 : callable Try.prog 113 = true := by kernel_rfl
theorem call_94 : callable Try.prog 94 = true := by kernel_rfl
theorem call_10 : callable Try.prog 10 = true := by kernel_rfl
theorem call_41 : callable Try.prog 41 = true := by kernel_rfl
theorem call_42 : callable Try.prog 42 = true := by kernel_rfl
theorem call_22 : callable Try.prog 22 = true := by kernel_rfl
theorem und_4 : Try.prog.underlying 4 = some .bool := by kernel_rfl
theorem call_45 : callable Try.prog 45 = true := by kernel_rfl
theorem call_29 : callable Try.prog 29 = true := by kernel_rfl
theorem call_14 : callable Try.prog 14 = true := by kernel_rfl
theorem call_46 : callable Try.prog 46 = true := by kernel_rfl
theorem cellsOf_5 : Try.prog.cellsOf 5 = 1 := by kernel_rfl
end Go.Proofs.Ytjjlkncefgfljaa
