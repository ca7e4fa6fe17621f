/- Facts about the program's types and functions, each by computation. -/
import Derived.Test.YtcmbbpdepobnlaaF6
import Derived.Test.YtcmbbpdepobnlaaProg
namespace Go.Proofs.Ytcmbbpdepobnlaa
open Go Go.RowKit E
set_option linter.unusedVariables false
theorem lenT_22 : lenT Try.prog 22 = some false := by kernel_rfl
theorem plan_108 : planA Try.prog 108 = some [(0, 1), (1, 1), (2, 1)] := by kernel_rfl
theorem zeroA_108 : zeroA Try.prog 108 = some (.agg #[(.slice none 0 0), (.int .i64 0), (.int .i64 0)]) := by kernel_rfl
theorem elemA_22 : elemA Try.prog 22 = some 5 := by kernel_rfl
theorem sizeA_5 : sizeA Try.prog 5 = some 1 := by kernel_rfl
theorem aggA_5 : aggA Try.prog 5 = some false := by kernel_rfl
theorem und_5 : Try.prog.underlying 5 = some (.int .u8) := by kernel_rfl
theorem und_3 : Try.prog.underlying 3 = some (.int .i64) := by kernel_rfl
theorem fieldA_108_2 : fieldA Try.prog 108 2 = some 2 := by kernel_rfl
theorem aggA_3 : aggA Try.prog 3 = some false := by kernel_rfl
theorem sizeA_3 : sizeA Try.prog 3 = some 1 := by kernel_rfl
theorem mixed : Try.prog.follows .mixedOrders = true := by kernel_rfl
theorem fieldA_108_1 : fieldA Try.prog 108 1 = some 1 := by kernel_rfl
theorem fieldA_108_0 : fieldA Try.prog 108 0 = some 0 := by kernel_rfl
theorem aggA_22 : aggA Try.prog 22 = some false := by kernel_rfl
theorem call_93 : callable Try.prog 93 = true := by kernel_rfl
theorem lenT_27 : lenT Try.prog 27 = some false := by kernel_rfl
theorem call_55 : callable Try.prog 55 = true := by kernel_rfl
theorem elemA_27 : elemA Try.prog 27 = some 3 := by kernel_rfl
theorem elemA_24 : elemA Try.prog 24 = some 73 := by kernel_rfl
theorem sizeA_73 : sizeA Try.prog 73 = some 4 := by kernel_rfl
theorem zeroA_73 : zeroA Try.prog 73 = some (.agg #[(.int .i64 0), (.int .i64 0), (.int .i64 0), (.bool false)]) := by kernel_rfl
theorem call_61 : callable Try.prog 61 = true := by kernel_rfl
theorem plan_73 : planA Try.prog 73 = some [(0, 1), (1, 1), (2, 1), (3, 1)] := by kernel_rfl
theorem bytesA_73 : bytesA Try.prog 73 = some 32 := by kernel_rfl
theorem call_41 : callable Try.prog 41 = true := by kernel_rfl
theorem call_83 : callable Try.prog 83 = true := by kernel_rfl
theorem fieldA_73_0 : fieldA Try.prog 73 0 = some 0 := by kernel_rfl
theorem fieldA_73_1 : fieldA Try.prog 73 1 = some 1 := by kernel_rfl
theorem fieldA_73_2 : fieldA Try.prog 73 2 = some 2 := by kernel_rfl
theorem fieldA_26_0 : fieldA Try.prog 26 0 = some 0 := by kernel_rfl
theorem fieldA_26_1 : fieldA Try.prog 26 1 = some 1 := by kernel_rfl
theorem fieldA_26_2 : fieldA Try.prog 26 2 = some 2 := by kernel_rfl
theorem call_42 : callable Try.prog 42 = true := by kernel_rfl
theorem fieldA_26_3 : fieldA Try.prog 26 3 = some 3 := by kernel_rfl
theorem aggA_24 : aggA Try.prog 24 = some false := by kernel_rfl
theorem lenT_24 : lenT Try.prog 24 = some false := by kernel_rfl
theorem aggA_73 : aggA Try.prog 73 = some true := by kernel_rfl
theorem call_43 : callable Try.prog 43 = true := by kernel_rfl
theorem call_44 : callable Try.prog 44 = true := by kernel_rfl
theorem zeroA_26 : zeroA Try.prog 26 = some (.agg #[(.int .i64 0), (.int .i64 0), (.int .i64 0), (.slice none 0 0)]) := by kernel_rfl
theorem plan_26 : planA Try.prog 26 = some [(0, 1), (1, 1), (2, 1), (3, 1)] := by kernel_rfl
theorem sizeA_26 : sizeA Try.prog 26 = some 4 := by kernel_rfl
theorem aggA_26 : aggA Try.prog 26 = some true := by kernel_rfl
theorem call_10 : callable Try.prog 10 = true := by kernel_rfl
theorem bytesA_3 : bytesA Try.prog 3 = some 8 := by kernel_rfl
theorem zeroA_3 : zeroA Try.prog 3 = some (.int .i64 0) := by kernel_rfl
theorem sizeA_24 : sizeA Try.prog 24 = some 1 := by kernel_rfl
theorem call_94 : callable Try.prog 94 = true := by kernel_rfl
theorem fieldA_73_3 : fieldA Try.prog 73 3 = some 3 := by kernel_rfl
theorem aggA_4 : aggA Try.prog 4 = some false := by kernel_rfl
theorem call_96 : callable Try.prog 96 = true := by kernel_rfl
theorem call_95 : callable Try.prog 95 = true := by kernel_rfl
theorem call_104 : callable Try.prog 104 = true := by kernel_rfl
theorem call_66 : callable Try.prog 66 = true := by kernel_rfl
theorem fieldA_29_0 : fieldA Try.prog 29 0 = some 0 := by kernel_rfl
theorem aggA_27 : aggA Try.prog 27 = some false := by kernel_rfl
theorem fieldA_29_1 : fieldA Try.prog 29 1 = some 1 := by kernel_rfl
theorem call_45 : callable Try.prog 45 = true := by kernel_rfl
theorem aggA_29 : aggA Try.prog 29 = some true := by kernel_rfl
theorem sizeA_29 : sizeA Try.prog 29 = some 2 := by kernel_rfl
theorem call_11 : callable Try.prog 11 = true := by kernel_rfl
theorem zeroA_29 : zeroA Try.prog 29 = some (.agg #[(.slice none 0 0), (.slice none 0 0)]) := by kernel_rfl
theorem call_118 : callable Try.prog 118 = true := by kernel_rfl
theorem plan_29 : planA Try.prog 29 = some [(0, 1), (1, 1)] := by kernel_rfl
theorem call_119 : callable Try.prog 119 = true := by kernel_rfl
theorem sizeA_27 : sizeA Try.prog 27 = some 1 := by kernel_rfl
theorem call_62 : callable Try.prog 62 = true := by kernel_rfl
theorem call_106 : callable Try.prog 106 = true := by kernel_rfl
theorem call_105 : callable Try.prog 105 = true := by kernel_rfl
theorem call_82 : callable Try.prog 82 = true := by kernel_rfl
theorem zeroA_81 : zeroA Try.prog 81 = some (.agg #[(.int .i64 0), (.int .i64 0), (.int .i64 0), (.int .i64 0), (.slice none 0 0)]) := by kernel_rfl
theorem plan_81 : planA Try.prog 81 = some [(0, 1), (1, 1), (2, 1), (3, 1), (4, 1)] := by kernel_rfl
theorem sizeA_81 : sizeA Try.prog 81 = some 5 := by kernel_rfl
theorem aggA_81 : aggA Try.prog 81 = some true := by kernel_rfl
theorem fieldA_81_4 : fieldA Try.prog 81 4 = some 4 := by kernel_rfl
theorem aggA_79 : aggA Try.prog 79 = some false := by kernel_rfl
theorem plan_115 : planA Try.prog 115 = some [(0, 1), (1, 1), (2, 1), (3, 1)] := by kernel_rfl
theorem zeroA_115 : zeroA Try.prog 115 = some (.agg #[(.int .i64 0), (.int .i64 0), (.int .i64 0), (.int .i64 0)]) := by kernel_rfl
theorem elemA_79 : elemA Try.prog 79 = some 115 := by kernel_rfl
theorem sizeA_115 : sizeA Try.prog 115 = some 4 := by kernel_rfl
theorem bytesA_115 : bytesA Try.prog 115 = some 32 := by kernel_rfl
theorem sizeA_79 : sizeA Try.prog 79 = some 1 := by kernel_rfl
theorem fieldA_115_0 : fieldA Try.prog 115 0 = some 0 := by kernel_rfl
theorem fieldA_115_1 : fieldA Try.prog 115 1 = some 1 := by kernel_rfl
theorem fieldA_115_2 : fieldA Try.prog 115 2 = some 2 := by kernel_rfl
theorem fieldA_81_0 : fieldA Try.prog 81 0 = some 0 := by kernel_rfl
theorem fieldA_81_1 : fieldA Try.prog 81 1 = some 1 := by kernel_rfl
theorem fieldA_81_2 : fieldA Try.prog 81 2 = some 2 := by kernel_rfl
theorem fieldA_81_3 : fieldA Try.prog 81 3 = some 3 := by kernel_rfl
theorem lenT_79 : lenT Try.prog 79 = some false := by kernel_rfl
theorem aggA_115 : aggA Try.prog 115 = some true := by kernel_rfl
theorem fieldA_115_3 : fieldA Try.prog 115 3 = some 3 := by kernel_rfl
theorem call_113 : callable Try.prog 113 = true := by kernel_rfl
theorem call_116 : callable Try.prog 116 = true := by kernel_rfl
theorem call_90 : callable Try.prog 90 = true := by kernel_rfl
theorem call_103 : callable Try.prog 103 = true := by kernel_rfl
theorem call_92 : callable Try.prog 92 = true := by kernel_rfl
theorem call_91 : callable Try.prog 91 = true := by kernel_rfl
theorem call_121 : callable Try.prog 121 = true := by kernel_rfl
theorem call_114 : callable Try.prog 114 = true := by kernel_rfl
theorem call_115 : callable Try.prog 115 = true := by kernel_rfl
theorem elemA_134 : elemA Try.prog 134 = some 27 := by kernel_rfl
theorem zeroA_27 : zeroA Try.prog 27 = some (.slice none 0 0) := by kernel_rfl
theorem bytesA_27 : bytesA Try.prog 27 = some 24 := by kernel_rfl
theorem call_88 : callable Try.prog 88 = true := by kernel_rfl
theorem call_89 : callable Try.prog 89 = true := by kernel_rfl
theorem elemA_112 : elemA Try.prog 112 = some 4 := by kernel_rfl
theorem sizeA_4 : sizeA Try.prog 4 = some 1 := by kernel_rfl
theorem bytesA_4 : bytesA Try.prog 4 = some 1 := by kernel_rfl
theorem zeroA_4 : zeroA Try.prog 4 = some (.bool false) := by kernel_rfl
theorem call_54 : callable Try.prog 54 = true := by kernel_rfl
theorem call_53 : callable Try.prog 53 = true := by kernel_rfl
theorem call_80 : callable Try.prog 80 = true := by kernel_rfl
theorem call_81 : callable Try.prog 81 = true := by kernel_rfl
theorem call_14 : callable Try.prog 14 = true := by kernel_rfl
theorem call_40 : callable Try.prog 40 = true := by kernel_rfl
theorem call_39 : callable Try.prog 39 = true := by kernel_rfl
theorem call_59 : callable Try.prog 59 = true := by kernel_rfl
theorem und_135 : Try.prog.underlying 135 = some (.int .u64) := by kernel_rfl
theorem call_107 : callable Try.prog 107 = true := by kernel_rfl
theorem call_108 : callable Try.prog 108 = true := by kernel_rfl
theorem call_109 : callable Try.prog 109 = true := by kernel_rfl
theorem call_120 : callable Try.prog 120 = true := by kernel_rfl
theorem call_111 : callable Try.prog 111 = true := by kernel_rfl
theorem call_110 : callable Try.prog 110 = true := by kernel_rfl
theorem call_84 : callable Try.prog 84 = true := by kernel_rfl
theorem call_85 : callable Try.prog 85 = true := by kernel_rfl
theorem call_48 : callable Try.prog 48 = true := by kernel_rfl
theorem und_27 : Try.prog.underlying 27 = some (.slice 3) := by kernel_rfl
theorem call_112 : callable Try.prog 112 = true := by kernel_rfl
theorem call_87 : callable Try.prog 87 = true := by kernel_rfl
theorem call_78 : callable Try.prog 78 = true := by kernel_rfl
theorem call_86 : callable Try.prog 86 = true := by kernel_rfl
theorem call_51 : callable Try.prog 51 = true := by kernel_rfl
theorem call_46 : callable Try.prog 46 = true := by kernel_rfl
theorem call_20 : callable Try.prog 20 = true := by kernel_rfl
theorem call_47 : callable Try.prog 47 = true := by kernel_rfl
theorem call_49 : callable Try.prog 49 = true := by kernel_rfl
theorem call_50 : callable Try.prog 50 = true := by kernel_rfl
theorem call_52 : callable Try.prog 52 = true := by kernel_rfl
theorem call_8 : callable Try.prog 8 = true := by kernel_rfl
theorem call_9 : callable Try.prog 9 = true := by kernel_rfl
theorem call_12 : callable Try.prog 12 = true := by kernel_rfl
theorem call_13 : callable Try.prog 13 = true := by kernel_rfl
theorem und_4 : Try.prog.underlying 4 = some .bool := by kernel_rfl
theorem cellsOf_5 : Try.prog.cellsOf 5 = 1 := by kernel_rfl
end Go.Proofs.Ytcmbbpdepobnlaa
