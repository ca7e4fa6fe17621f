/- Facts about the program's types and functions, each by computation. -/
import Derived.Test.YtcmbbpdepobnlaaF8
import Derived.Test.YtcmbbpdepobnlaaProg
namespace Go.Proofs.Ytcmbbpdepobnlaa
open Go Go.RowKit E
set_option linter.unusedVariables false
theorem lenT_52 : lenT Try.prog 52 = some false := by kernel_rfl
theorem fieldA_54_3 : fieldA Try.prog 54 3 = some 3 := by kernel_rfl
theorem aggA_52 : aggA Try.prog 52 = some false := by kernel_rfl
theorem call_69 : callable Try.prog 69 = true := by kernel_rfl
theorem zeroA_73 : zeroA Try.prog 73 = some (.agg #[(.int .i64 0), (.int .i64 0), (.int .i64 0), (.bool false)]) := by kernel_rfl
theorem fieldA_124_0 : fieldA Try.prog 124 0 = some 0 := by kernel_rfl
theorem aggA_3 : aggA Try.prog 3 = some false := by kernel_rfl
theorem fieldA_73_0 : fieldA Try.prog 73 0 = some 0 := by kernel_rfl
theorem sizeA_3 : sizeA Try.prog 3 = some 1 := by kernel_rfl
theorem fieldA_124_1 : fieldA Try.prog 124 1 = some 1 := by kernel_rfl
theorem fieldA_73_1 : fieldA Try.prog 73 1 = some 1 := by kernel_rfl
theorem fieldA_124_2 : fieldA Try.prog 124 2 = some 2 := by kernel_rfl
theorem fieldA_73_2 : fieldA Try.prog 73 2 = some 2 := by kernel_rfl
theorem fieldA_124_3 : fieldA Try.prog 124 3 = some 3 := by kernel_rfl
theorem aggA_4 : aggA Try.prog 4 = some false := by kernel_rfl
theorem fieldA_73_3 : fieldA Try.prog 73 3 = some 3 := by kernel_rfl
theorem sizeA_4 : sizeA Try.prog 4 = some 1 := by kernel_rfl
theorem aggA_73 : aggA Try.prog 73 = some true := by kernel_rfl
theorem sizeA_73 : sizeA Try.prog 73 = some 4 := by kernel_rfl
theorem elemA_24 : elemA Try.prog 24 = some 73 := by kernel_rfl
theorem bytesA_73 : bytesA Try.prog 73 = some 32 := by kernel_rfl
theorem elemA_52 : elemA Try.prog 52 = some 124 := by kernel_rfl
theorem sizeA_124 : sizeA Try.prog 124 = some 4 := by kernel_rfl
theorem aggA_124 : aggA Try.prog 124 = some true := by kernel_rfl
theorem call_101 : callable Try.prog 101 = true := by kernel_rfl
theorem zeroA_26 : zeroA Try.prog 26 = some (.agg #[(.int .i64 0), (.int .i64 0), (.int .i64 0), (.slice none 0 0)]) := by kernel_rfl
theorem fieldA_54_0 : fieldA Try.prog 54 0 = some 0 := by kernel_rfl
theorem fieldA_26_0 : fieldA Try.prog 26 0 = some 0 := by kernel_rfl
theorem fieldA_54_1 : fieldA Try.prog 54 1 = some 1 := by kernel_rfl
theorem fieldA_26_1 : fieldA Try.prog 26 1 = some 1 := by kernel_rfl
theorem fieldA_54_2 : fieldA Try.prog 54 2 = some 2 := by kernel_rfl
theorem fieldA_26_2 : fieldA Try.prog 26 2 = some 2 := by kernel_rfl
theorem call_70 : callable Try.prog 70 = true := by kernel_rfl
theorem fieldA_26_3 : fieldA Try.prog 26 3 = some 3 := by kernel_rfl
theorem sizeA_24 : sizeA Try.prog 24 = some 1 := by kernel_rfl
theorem aggA_26 : aggA Try.prog 26 = some true := by kernel_rfl
theorem sizeA_26 : sizeA Try.prog 26 = some 4 := by kernel_rfl
theorem call_41 : callable Try.prog 41 = true := by kernel_rfl
theorem call_83 : callable Try.prog 83 = true := by kernel_rfl
theorem mixed : Try.prog.follows .mixedOrders = true := by kernel_rfl
theorem call_42 : callable Try.prog 42 = true := by kernel_rfl
theorem aggA_24 : aggA Try.prog 24 = some false := by kernel_rfl
theorem lenT_24 : lenT Try.prog 24 = some false := by kernel_rfl
theorem call_43 : callable Try.prog 43 = true := by kernel_rfl
theorem call_44 : callable Try.prog 44 = true := by kernel_rfl
theorem call_10 : callable Try.prog 10 = true := by kernel_rfl
theorem elemA_27 : elemA Try.prog 27 = some 3 := by kernel_rfl
theorem zeroA_3 : zeroA Try.prog 3 = some (.int .i64 0) := by kernel_rfl
theorem bytesA_3 : bytesA Try.prog 3 = some 8 := by kernel_rfl
theorem call_94 : callable Try.prog 94 = true := by kernel_rfl
theorem lenT_27 : lenT Try.prog 27 = some false := by kernel_rfl
theorem lenT_47 : lenT Try.prog 47 = some false := by kernel_rfl
theorem elemA_47 : elemA Try.prog 47 = some 51 := by kernel_rfl
theorem sizeA_51 : sizeA Try.prog 51 = some 2 := by kernel_rfl
theorem fieldA_51_1 : fieldA Try.prog 51 1 = some 1 := by kernel_rfl
theorem aggA_27 : aggA Try.prog 27 = some false := by kernel_rfl
theorem call_100 : callable Try.prog 100 = true := by kernel_rfl
theorem call_63 : callable Try.prog 63 = true := by kernel_rfl
theorem zeroA_51 : zeroA Try.prog 51 = some (.agg #[(.slice none 0 0), (.slice none 0 0)]) := by kernel_rfl
theorem call_64 : callable Try.prog 64 = true := by kernel_rfl
theorem plan_51 : planA Try.prog 51 = some [(0, 1), (1, 1)] := by kernel_rfl
theorem call_65 : callable Try.prog 65 = true := by kernel_rfl
theorem call_58 : callable Try.prog 58 = true := by kernel_rfl
theorem call_68 : callable Try.prog 68 = true := by kernel_rfl
theorem fieldA_51_0 : fieldA Try.prog 51 0 = some 0 := by kernel_rfl
theorem bytesA_51 : bytesA Try.prog 51 = some 48 := by kernel_rfl
theorem call_59 : callable Try.prog 59 = true := by kernel_rfl
theorem und_3 : Try.prog.underlying 3 = some (.int .i64) := by kernel_rfl
theorem und_135 : Try.prog.underlying 135 = some (.int .u64) := by kernel_rfl
theorem call_107 : callable Try.prog 107 = true := by kernel_rfl
theorem call_108 : callable Try.prog 108 = true := by kernel_rfl
theorem call_109 : callable Try.prog 109 = true := by kernel_rfl
theorem call_120 : callable Try.prog 120 = true := by kernel_rfl
theorem call_111 : callable Try.prog 111 = true := by kernel_rfl
theorem call_110 : callable Try.prog 110 = true := by kernel_rfl
theorem call_84 : callable Try.prog 84 = true := by kernel_rfl
theorem call_85 : callable Try.prog 85 = true := by kernel_rfl
theorem fieldA_93_1 : fieldA Try.prog 93 1 = some 1 := by kernel_rfl
theorem call_86 : callable Try.prog 86 = true := by kernel_rfl
theorem fieldA_93_2 : fieldA Try.prog 93 2 = some 2 := by kernel_rfl
theorem lenT_89 : lenT Try.prog 89 = some false := by kernel_rfl
theorem elemA_89 : elemA Try.prog 89 = some 93 := by kernel_rfl
theorem sizeA_93 : sizeA Try.prog 93 = some 3 := by kernel_rfl
theorem aggA_93 : aggA Try.prog 93 = some true := by kernel_rfl
theorem call_117 : callable Try.prog 117 = true := by kernel_rfl
theorem aggA_89 : aggA Try.prog 89 = some false := by kernel_rfl
theorem call_99 : callable Try.prog 99 = true := by kernel_rfl
theorem call_98 : callable Try.prog 98 = true := by kernel_rfl
theorem und_27 : Try.prog.underlying 27 = some (.slice 3) := by kernel_rfl
theorem call_50 : callable Try.prog 50 = true := by kernel_rfl
theorem plan_93 : planA Try.prog 93 = some [(0, 1), (1, 1), (2, 1)] := by kernel_rfl
theorem zeroA_93 : zeroA Try.prog 93 = some (.agg #[(.slice none 0 0), (.slice none 0 0), (.slice none 0 0)]) := by kernel_rfl
theorem zeroA_89 : zeroA Try.prog 89 = some (.slice none 0 0) := by kernel_rfl
theorem sizeA_89 : sizeA Try.prog 89 = some 1 := by kernel_rfl
theorem call_52 : callable Try.prog 52 = true := by kernel_rfl
theorem call_51 : callable Try.prog 51 = true := by kernel_rfl
theorem call_97 : callable Try.prog 97 = true := by kernel_rfl
theorem fieldA_93_0 : fieldA Try.prog 93 0 = some 0 := by kernel_rfl
theorem call_78 : callable Try.prog 78 = true := by kernel_rfl
theorem sizeA_27 : sizeA Try.prog 27 = some 1 := by kernel_rfl
theorem bytesA_93 : bytesA Try.prog 93 = some 72 := by kernel_rfl
theorem call_48 : callable Try.prog 48 = true := by kernel_rfl
theorem call_46 : callable Try.prog 46 = true := by kernel_rfl
theorem call_67 : callable Try.prog 67 = true := by kernel_rfl
theorem call_79 : callable Try.prog 79 = true := by kernel_rfl
theorem aggA_51 : aggA Try.prog 51 = some true := by kernel_rfl
theorem call_71 : callable Try.prog 71 = true := by kernel_rfl
theorem und_4 : Try.prog.underlying 4 = some .bool := by kernel_rfl
theorem call_102 : callable Try.prog 102 = true := by kernel_rfl
theorem call_72 : callable Try.prog 72 = true := by kernel_rfl
theorem call_73 : callable Try.prog 73 = true := by kernel_rfl
theorem call_75 : callable Try.prog 75 = true := by kernel_rfl
theorem cellsOf_3 : Try.prog.cellsOf 3 = 1 := by kernel_rfl
theorem cellsOf_4 : Try.prog.cellsOf 4 = 1 := by kernel_rfl
theorem cellsOf_124 : Try.prog.cellsOf 124 = 4 := by kernel_rfl
theorem cellsOf_52 : Try.prog.cellsOf 52 = 1 := by kernel_rfl
theorem cellsOf_54 : Try.prog.cellsOf 54 = 4 := by kernel_rfl
end Go.Proofs.Ytcmbbpdepobnlaa
