/- Facts about the program's types and functions, each by computation. -/
import Derived.Test.YtjjlkncefgfljaaF6
import Derived.Test.YtjjlkncefgfljaaProg
namespace Go.Proofs.Ytjjlkncefgfljaa
open Go Go.RowKit E
set_option linter.unusedVariables false
theorem lenT_34 : lenT Try.prog 34 = some false := by kernel_rfl
theorem lenT_32 : lenT Try.prog 32 = some false := by kernel_rfl
theorem fieldA_36_0 : fieldA Try.prog 36 0 = some 0 := by kernel_rfl
theorem aggA_32 : aggA Try.prog 32 = some false := by kernel_rfl
theorem call_64 : callable Try.prog 64 = true := by kernel_rfl
theorem fieldA_36_1 : fieldA Try.prog 36 1 = some 1 := by kernel_rfl
theorem zeroA_59 : zeroA Try.prog 59 = some (.agg #[(.int .i64 0), (.int .i64 0), (.int .i64 0)]) := by kernel_rfl
theorem fieldA_86_0 : fieldA Try.prog 86 0 = some 0 := by kernel_rfl
theorem aggA_3 : aggA Try.prog 3 = some false := by kernel_rfl
theorem fieldA_59_0 : fieldA Try.prog 59 0 = some 0 := by kernel_rfl
theorem sizeA_3 : sizeA Try.prog 3 = some 1 := by kernel_rfl
theorem fieldA_86_1 : fieldA Try.prog 86 1 = some 1 := by kernel_rfl
theorem fieldA_59_1 : fieldA Try.prog 59 1 = some 1 := by kernel_rfl
theorem fieldA_86_2 : fieldA Try.prog 86 2 = some 2 := by kernel_rfl
theorem fieldA_59_2 : fieldA Try.prog 59 2 = some 2 := by kernel_rfl
theorem aggA_59 : aggA Try.prog 59 = some true := by kernel_rfl
theorem sizeA_59 : sizeA Try.prog 59 = some 3 := by kernel_rfl
theorem elemA_24 : elemA Try.prog 24 = some 59 := by kernel_rfl
theorem bytesA_59 : bytesA Try.prog 59 = some 24 := by kernel_rfl
theorem elemA_34 : elemA Try.prog 34 = some 86 := by kernel_rfl
theorem sizeA_86 : sizeA Try.prog 86 = some 3 := by kernel_rfl
theorem aggA_86 : aggA Try.prog 86 = some true := by kernel_rfl
theorem call_65 : callable Try.prog 65 = true := by kernel_rfl
theorem elemA_32 : elemA Try.prog 32 = some 3 := by kernel_rfl
theorem bytesA_3 : bytesA Try.prog 3 = some 8 := by kernel_rfl
theorem zeroA_3 : zeroA Try.prog 3 = some (.int .i64 0) := by kernel_rfl
theorem zeroA_41 : zeroA Try.prog 41 = some (.agg #[(.slice none 0 0), (.slice none 0 0)]) := by kernel_rfl
theorem call_66 : callable Try.prog 66 = true := by kernel_rfl
theorem fieldA_41_0 : fieldA Try.prog 41 0 = some 0 := by kernel_rfl
theorem sizeA_32 : sizeA Try.prog 32 = some 1 := by kernel_rfl
theorem fieldA_41_1 : fieldA Try.prog 41 1 = some 1 := by kernel_rfl
theorem aggA_41 : aggA Try.prog 41 = some true := by kernel_rfl
theorem sizeA_41 : sizeA Try.prog 41 = some 2 := by kernel_rfl
theorem call_86 : callable Try.prog 86 = true := by kernel_rfl
theorem lenT_24 : lenT Try.prog 24 = some false := by kernel_rfl
theorem mixed : Try.prog.follows .mixedOrders = true := by kernel_rfl
theorem call_88 : callable Try.prog 88 = true := by kernel_rfl
theorem call_56 : callable Try.prog 56 = true := by kernel_rfl
theorem call_87 : callable Try.prog 87 = true := by kernel_rfl
theorem call_89 : callable Try.prog 89 = true := by kernel_rfl
theorem call_44 : callable Try.prog 44 = true := by kernel_rfl
theorem call_105 : callable Try.prog 105 = true := by kernel_rfl
theorem call_126 : callable Try.prog 126 = true := by kernel_rfl
theorem call_84 : callable Try.prog 84 = true := by kernel_rfl
theorem elemA_48 : elemA Try.prog 48 = some 56 := by kernel_rfl
theorem sizeA_56 : sizeA Try.prog 56 = some 1 := by kernel_rfl
theorem aggA_56 : aggA Try.prog 56 = some false := by kernel_rfl
theorem elemA_56 : elemA Try.prog 56 = some 4 := by kernel_rfl
theorem sizeA_4 : sizeA Try.prog 4 = some 1 := by kernel_rfl
theorem aggA_4 : aggA Try.prog 4 = some false := by kernel_rfl
theorem bytesA_4 : bytesA Try.prog 4 = some 1 := by kernel_rfl
theorem zeroA_4 : zeroA Try.prog 4 = some (.bool false) := by kernel_rfl
theorem call_106 : callable Try.prog 106 = true := by kernel_rfl
theorem zeroA_56 : zeroA Try.prog 56 = some (.slice none 0 0) := by kernel_rfl
theorem call_43 : callable Try.prog 43 = true := by kernel_rfl
theorem call_72 : callable Try.prog 72 = true := by kernel_rfl
theorem call_73 : callable Try.prog 73 = true := by kernel_rfl
theorem bytesA_56 : bytesA Try.prog 56 = some 24 := by kernel_rfl
theorem call_90 : callable Try.prog 90 = true := by kernel_rfl
theorem call_100 : callable Try.prog 100 = true := by kernel_rfl
theorem call_119 : callable Try.prog 119 = true := by kernel_rfl
theorem call_99 : callable Try.prog 99 = true := by kernel_rfl
theorem call_53 : callable Try.prog 53 = true := by kernel_rfl
theorem call_60 : callable Try.prog 60 = true := by kernel_rfl
theorem call_120 : callable Try.prog 120 = true := by kernel_rfl
theorem call_121 : callable Try.prog 121 = true := by kernel_rfl
theorem call_103 : callable Try.prog 103 = true := by kernel_rfl
theorem call_122 : callable Try.prog 122 = true := by kernel_rfl
theorem lenT_48 : lenT Try.prog 48 = some false := by kernel_rfl
theorem arrA_130 : arrA Try.prog 130 = some (2, 3, 1) := by kernel_rfl
theorem zeroA_130 : zeroA Try.prog 130 = some (.agg #[(.int .i64 0), (.int .i64 0)]) := by kernel_rfl
theorem und_3 : Try.prog.underlying 3 = some (.int .i64) := by kernel_rfl
theorem und_118 : Try.prog.underlying 118 = some (.int .u64) := by kernel_rfl
theorem call_110 : callable Try.prog 110 = true := by kernel_rfl
theorem call_128 : callable Try.prog 128 = true := by kernel_rfl
theorem lenT_56 : lenT Try.prog 56 = some false := by kernel_rfl
theorem call_123 : callable Try.prog 123 = true := by kernel_rfl
theorem call_124 : callable Try.prog 124 = true := by kernel_rfl
theorem call_125 : callable Try.prog 125 = true := by kernel_rfl
theorem call_109 : callable Try.prog 109 = true := by kernel_rfl
theorem call_104 : callable Try.prog 104 = true := by kernel_rfl
theorem call_16 : callable Try.prog 16 = true := by kernel_rfl
theorem call_67 : callable Try.prog 67 = true := by kernel_rfl
theorem call_68 : callable Try.prog 68 = true := by kernel_rfl
theorem und_4 : Try.prog.underlying 4 = some .bool := by kernel_rfl
theorem call_74 : callable Try.prog 74 = true := by kernel_rfl
theorem call_70 : callable Try.prog 70 = true := by kernel_rfl
theorem call_71 : callable Try.prog 71 = true := by kernel_rfl
theorem call_75 : callable Try.prog 75 = true := by kernel_rfl
theorem call_76 : callable Try.prog 76 = true := by kernel_rfl
theorem call_77 : callable Try.prog 77 = true := by kernel_rfl
theorem call_20 : callable Try.prog 20 = true := by kernel_rfl
theorem aggA_36 : aggA Try.prog 36 = some true := by kernel_rfl
theorem sizeA_36 : sizeA Try.prog 36 = some 2 := by kernel_rfl
theorem call_21 : callable Try.prog 21 = true := by kernel_rfl
theorem call_23 : callable Try.prog 23 = true := by kernel_rfl
theorem call_24 : callable Try.prog 24 = true := by kernel_rfl
theorem call_30 : callable Try.prog 30 = true := by kernel_rfl
theorem call_31 : callable Try.prog 31 = true := by kernel_rfl
theorem call_32 : callable Try.prog 32 = true := by kernel_rfl
theorem call_26 : callable Try.prog 26 = true := by kernel_rfl
theorem call_27 : callable Try.prog 27 = true := by kernel_rfl
theorem call_33 : callable Try.prog 33 = true := by kernel_rfl
theorem call_34 : callable Try.prog 34 = true := by kernel_rfl
theorem call_35 : callable Try.prog 35 = true := by kernel_rfl
theorem call_36 : callable Try.prog 36 = true := by kernel_rfl
theorem cellsOf_3 : Try.prog.cellsOf 3 = 1 := by kernel_rfl
theorem cellsOf_86 : Try.prog.cellsOf 86 = 3 := by kernel_rfl
theorem cellsOf_32 : Try.prog.cellsOf 32 = 1 := by kernel_rfl
theorem cellsOf_36 : Try.prog.cellsOf 36 = 2 := by kernel_rfl
end Go.Proofs.Ytjjlkncefgfljaa
