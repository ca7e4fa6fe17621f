/- Facts about the program's types and functions, each by computation. -/
import Derived.Test.YtpikdepigcmfnaaF3
import Derived.Test.YtpikdepigcmfnaaProg
namespace Go.Proofs.Ytpikdepigcmfnaa
open Go Go.RowKit E
set_option linter.unusedVariables false
theorem lenT_22 : lenT Try.prog 22 = some false := by kernel_rfl
theorem zeroA_54 : zeroA Try.prog 54 = some (.agg #[(.int .i64 0), (.int .i64 0), (.int .i64 0)]) := by kernel_rfl
theorem fieldA_75_0 : fieldA Try.prog 75 0 = some 0 := by kernel_rfl
theorem aggA_3 : aggA Try.prog 3 = some false := by kernel_rfl
theorem fieldA_54_0 : fieldA Try.prog 54 0 = some 0 := by kernel_rfl
theorem sizeA_3 : sizeA Try.prog 3 = some 1 := by kernel_rfl
theorem fieldA_75_1 : fieldA Try.prog 75 1 = some 1 := by kernel_rfl
theorem fieldA_54_1 : fieldA Try.prog 54 1 = some 1 := by kernel_rfl
theorem fieldA_75_2 : fieldA Try.prog 75 2 = some 2 := by kernel_rfl
theorem fieldA_54_2 : fieldA Try.prog 54 2 = some 2 := by kernel_rfl
theorem aggA_54 : aggA Try.prog 54 = some true := by kernel_rfl
theorem sizeA_54 : sizeA Try.prog 54 = some 3 := by kernel_rfl
theorem elemA_25 : elemA Try.prog 25 = some 54 := by kernel_rfl
theorem bytesA_54 : bytesA Try.prog 54 = some 24 := by kernel_rfl
theorem elemA_22 : elemA Try.prog 22 = some 75 := by kernel_rfl
theorem sizeA_75 : sizeA Try.prog 75 = some 3 := by kernel_rfl
theorem aggA_75 : aggA Try.prog 75 = some true := by kernel_rfl
theorem call_60 : callable Try.prog 60 = true := by kernel_rfl
theorem call_56 : callable Try.prog 56 = true := by kernel_rfl
theorem elemA_34 : elemA Try.prog 34 = some 3 := by kernel_rfl
theorem zeroA_3 : zeroA Try.prog 3 = some (.int .i64 0) := by kernel_rfl
theorem lenT_25 : lenT Try.prog 25 = some false := by kernel_rfl
theorem bytesA_3 : bytesA Try.prog 3 = some 8 := by kernel_rfl
theorem mixed : Try.prog.follows .mixedOrders = true := by kernel_rfl
theorem call_59 : callable Try.prog 59 = true := by kernel_rfl
theorem lenT_34 : lenT Try.prog 34 = some false := by kernel_rfl
theorem call_57 : callable Try.prog 57 = true := by kernel_rfl
theorem call_58 : callable Try.prog 58 = true := by kernel_rfl
theorem call_130 : callable Try.prog 130 = true := by kernel_rfl
theorem call_102 : callable Try.prog 102 = true := by kernel_rfl
theorem call_103 : callable Try.prog 103 = true := by kernel_rfl
theorem call_62 : callable Try.prog 62 = true := by kernel_rfl
theorem call_61 : callable Try.prog 61 = true := by kernel_rfl
theorem call_63 : callable Try.prog 63 = true := by kernel_rfl
theorem call_15 : callable Try.prog 15 = true := by kernel_rfl
theorem call_17 : callable Try.prog 17 = true := by kernel_rfl
theorem call_16 : callable Try.prog 16 = true := by kernel_rfl
theorem call_18 : callable Try.prog 18 = true := by kernel_rfl
theorem und_4 : Try.prog.underlying 4 = some .bool := by kernel_rfl
theorem call_19 : callable Try.prog 19 = true := by kernel_rfl
theorem und_3 : Try.prog.underlying 3 = some (.int .i64) := by kernel_rfl
theorem und_5 : Try.prog.underlying 5 = some (.int .u8) := by kernel_rfl
theorem elemA_47 : elemA Try.prog 47 = some 5 := by kernel_rfl
theorem sizeA_5 : sizeA Try.prog 5 = some 1 := by kernel_rfl
theorem zeroA_5 : zeroA Try.prog 5 = some (.int .u8 0) := by kernel_rfl
theorem und_9 : Try.prog.underlying 9 = some .string := by kernel_rfl
theorem call_104 : callable Try.prog 104 = true := by kernel_rfl
theorem call_64 : callable Try.prog 64 = true := by kernel_rfl
theorem elemA_80 : elemA Try.prog 80 = some 9 := by kernel_rfl
theorem sizeA_9 : sizeA Try.prog 9 = some 1 := by kernel_rfl
theorem bytesA_9 : bytesA Try.prog 9 = some 16 := by kernel_rfl
theorem zeroA_9 : zeroA Try.prog 9 = some (.string ⟨#[]⟩) := by kernel_rfl
theorem aggA_9 : aggA Try.prog 9 = some false := by kernel_rfl
theorem call_65 : callable Try.prog 65 = true := by kernel_rfl
theorem call_20 : callable Try.prog 20 = true := by kernel_rfl
theorem call_21 : callable Try.prog 21 = true := by kernel_rfl
theorem call_66 : callable Try.prog 66 = true := by kernel_rfl
theorem und_91 : Try.prog.underlying 91 = some (.int .u64) := by kernel_rfl
theorem call_71 : callable Try.prog 71 = true := by kernel_rfl
theorem call_30 : callable Try.prog 30 = true := by kernel_rfl
theorem call_22 : callable Try.prog 22 = true := by kernel_rfl
theorem call_23 : callable Try.prog 23 = true := by kernel_rfl
theorem call_105 : callable Try.prog 105 = true := by kernel_rfl
theorem aggA_5 : aggA Try.prog 5 = some false := by kernel_rfl
theorem call_67 : callable Try.prog 67 = true := by kernel_rfl
theorem lenT_9 : lenT Try.prog 9 = some true := by kernel_rfl
theorem plan_54 : planA Try.prog 54 = some [(0, 1), (1, 1), (2, 1)] := by kernel_rfl
theorem plan_123 : planA Try.prog 123 = some [(0, 1), (1, 1), (2, 1), (3, 1), (4, 1)] := by kernel_rfl
theorem zeroA_123 : zeroA Try.prog 123 = some (.agg #[(.string ⟨#[]⟩), (.int .i64 0), (.int .i64 0), (.slice none 0 0), .nilFunc]) := by kernel_rfl
theorem fieldA_123_2 : fieldA Try.prog 123 2 = some 2 := by kernel_rfl
theorem fieldA_123_1 : fieldA Try.prog 123 1 = some 1 := by kernel_rfl
theorem fieldA_123_3 : fieldA Try.prog 123 3 = some 3 := by kernel_rfl
theorem aggA_25 : aggA Try.prog 25 = some false := by kernel_rfl
theorem call_106 : callable Try.prog 106 = true := by kernel_rfl
theorem fieldA_123_0 : fieldA Try.prog 123 0 = some 0 := by kernel_rfl
theorem call_146 : callable Try.prog 146 = true := by kernel_rfl
theorem sizeA_25 : sizeA Try.prog 25 = some 1 := by kernel_rfl
theorem call_133 : callable Try.prog 133 = true := by kernel_rfl
theorem call_134 : callable Try.prog 134 = true := by kernel_rfl
theorem call_149 : callable Try.prog 149 = true := by kernel_rfl
theorem call_108 : callable Try.prog 108 = true := by kernel_rfl
theorem call_107 : callable Try.prog 107 = true := by kernel_rfl
theorem call_135 : callable Try.prog 135 = true := by kernel_rfl
theorem call_150 : callable Try.prog 150 = true := by kernel_rfl
theorem call_69 : callable Try.prog 69 = true := by kernel_rfl
theorem call_147 : callable Try.prog 147 = true := by kernel_rfl
theorem call_148 : callable Try.prog 148 = true := by kernel_rfl
theorem call_68 : callable Try.prog 68 = true := by kernel_rfl
theorem call_24 : callable Try.prog 24 = true := by kernel_rfl
theorem call_25 : callable Try.prog 25 = true := by kernel_rfl
theorem call_26 : callable Try.prog 26 = true := by kernel_rfl
theorem call_27 : callable Try.prog 27 = true := by kernel_rfl
theorem elemA_86 : elemA Try.prog 86 = some 4 := by kernel_rfl
theorem sizeA_4 : sizeA Try.prog 4 = some 1 := by kernel_rfl
theorem bytesA_4 : bytesA Try.prog 4 = some 1 := by kernel_rfl
theorem zeroA_4 : zeroA Try.prog 4 = some (.bool false) := by kernel_rfl
theorem aggA_4 : aggA Try.prog 4 = some false := by kernel_rfl
theorem lenT_86 : lenT Try.prog 86 = some false := by kernel_rfl
theorem elemA_87 : elemA Try.prog 87 = some 86 := by kernel_rfl
theorem sizeA_86 : sizeA Try.prog 86 = some 1 := by kernel_rfl
theorem zeroA_86 : zeroA Try.prog 86 = some (.slice none 0 0) := by kernel_rfl
theorem bytesA_86 : bytesA Try.prog 86 = some 24 := by kernel_rfl
theorem aggA_86 : aggA Try.prog 86 = some false := by kernel_rfl
theorem call_109 : callable Try.prog 109 = true := by kernel_rfl
theorem call_110 : callable Try.prog 110 = true := by kernel_rfl
theorem call_70 : callable Try.prog 70 = true := by kernel_rfl
theorem call_29 : callable Try.prog 29 = true := by kernel_rfl
theorem call_28 : callable Try.prog 28 = true := by kernel_rfl
theorem call_31 : callable Try.prog 31 = true := by kernel_rfl
theorem fieldA_94_0 : fieldA Try.prog 94 0 = some 0 := by kernel_rfl
theorem aggA_22 : aggA Try.prog 22 = some false := by kernel_rfl
theorem fieldA_94_1 : fieldA Try.prog 94 1 = some 1 := by kernel_rfl
theorem lenT_39 : lenT Try.prog 39 = some false := by kernel_rfl
theorem elemA_39 : elemA Try.prog 39 = some 94 := by kernel_rfl
theorem sizeA_94 : sizeA Try.prog 94 = some 2 := by kernel_rfl
theorem aggA_94 : aggA Try.prog 94 = some true := by kernel_rfl
theorem call_72 : callable Try.prog 72 = true := by kernel_rfl
theorem zeroA_96 : zeroA Try.prog 96 = some (.agg #[(.slice none 0 0), (.slice none 0 0)]) := by kernel_rfl
theorem fieldA_96_0 : fieldA Try.prog 96 0 = some 0 := by kernel_rfl
theorem fieldA_96_1 : fieldA Try.prog 96 1 = some 1 := by kernel_rfl
theorem aggA_96 : aggA Try.prog 96 = some true := by kernel_rfl
theorem sizeA_96 : sizeA Try.prog 96 = some 2 := by kernel_rfl
theorem elemA_42 : elemA Try.prog 42 = some 96 := by kernel_rfl
theorem bytesA_96 : bytesA Try.prog 96 = some 48 := by kernel_rfl
theorem call_73 : callable Try.prog 73 = true := by kernel_rfl
theorem lenT_42 : lenT Try.prog 42 = some false := by kernel_rfl
theorem call_74 : callable Try.prog 74 = true := by kernel_rfl
theorem call_32 : callable Try.prog 32 = true := by kernel_rfl
theorem call_34 : callable Try.prog 34 = true := by kernel_rfl
theorem call_33 : callable Try.prog 33 = true := by kernel_rfl
theorem call_35 : callable Try.prog 35 = true := by kernel_rfl
theorem call_36 : callable Try.prog 36 = true := by kernel_rfl
theorem lenT_80 : lenT Try.prog 80 = some false := by kernel_rfl
theorem call_37 : callable Try.prog 37 = true := by kernel_rfl
theorem call_114 : callable Try.prog 114 = true := by kernel_rfl
theorem call_76 : callable Try.prog 76 = true := by kernel_rfl
theorem call_115 : callable Try.prog 115 = true := by kernel_rfl
theorem call_138 : callable Try.prog 138 = true := by kernel_rfl
theorem call_77 : callable Try.prog 77 = true := by kernel_rfl
theorem call_153 : callable Try.prog 153 = true := by kernel_rfl
theorem call_39 : callable Try.prog 39 = true := by kernel_rfl
theorem call_40 : callable Try.prog 40 = true := by kernel_rfl
theorem lenT_47 : lenT Try.prog 47 = some false := by kernel_rfl
theorem fieldA_138_2 : fieldA Try.prog 138 2 = some 2 := by kernel_rfl
theorem fieldA_138_1 : fieldA Try.prog 138 1 = some 1 := by kernel_rfl
theorem fieldA_138_0 : fieldA Try.prog 138 0 = some 0 := by kernel_rfl
theorem aggA_47 : aggA Try.prog 47 = some false := by kernel_rfl
theorem call_118 : callable Try.prog 118 = true := by kernel_rfl
theorem call_84 : callable Try.prog 84 = true := by kernel_rfl
theorem call_82 : callable Try.prog 82 = true := by kernel_rfl
theorem call_117 : callable Try.prog 117 = true := by kernel_rfl
theorem call_41 : callable Try.prog 41 = true := by kernel_rfl
theorem call_88 : callable Try.prog 88 = true := by kernel_rfl
theorem call_49 : callable Try.prog 49 = true := by kernel_rfl
theorem call_89 : callable Try.prog 89 = true := by kernel_rfl
theorem call_90 : callable Try.prog 90 = true := by kernel_rfl
theorem call_91 : callable Try.prog 91 = true := by kernel_rfl
theorem lenT_55 : lenT Try.prog 55 = some false := by kernel_rfl
theorem fieldA_57_3 : fieldA Try.prog 57 3 = some 3 := by kernel_rfl
theorem aggA_55 : aggA Try.prog 55 = some false := by kernel_rfl
theorem call_121 : callable Try.prog 121 = true := by kernel_rfl
theorem fieldA_59_0 : fieldA Try.prog 59 0 = some 0 := by kernel_rfl
theorem aggA_57 : aggA Try.prog 57 = some true := by kernel_rfl
theorem sizeA_57 : sizeA Try.prog 57 = some 4 := by kernel_rfl
theorem call_93 : callable Try.prog 93 = true := by kernel_rfl
theorem zeroA_145 : zeroA Try.prog 145 = some (.agg #[(.int .i64 0), (.int .i64 0), (.int .i64 0), (.bool false)]) := by kernel_rfl
theorem fieldA_155_0 : fieldA Try.prog 155 0 = some 0 := by kernel_rfl
theorem fieldA_145_0 : fieldA Try.prog 145 0 = some 0 := by kernel_rfl
theorem fieldA_155_1 : fieldA Try.prog 155 1 = some 1 := by kernel_rfl
theorem fieldA_145_1 : fieldA Try.prog 145 1 = some 1 := by kernel_rfl
theorem fieldA_155_2 : fieldA Try.prog 155 2 = some 2 := by kernel_rfl
theorem fieldA_145_2 : fieldA Try.prog 145 2 = some 2 := by kernel_rfl
theorem fieldA_155_3 : fieldA Try.prog 155 3 = some 3 := by kernel_rfl
theorem fieldA_145_3 : fieldA Try.prog 145 3 = some 3 := by kernel_rfl
theorem aggA_145 : aggA Try.prog 145 = some true := by kernel_rfl
theorem sizeA_145 : sizeA Try.prog 145 = some 4 := by kernel_rfl
theorem elemA_62 : elemA Try.prog 62 = some 145 := by kernel_rfl
theorem bytesA_145 : bytesA Try.prog 145 = some 32 := by kernel_rfl
theorem elemA_55 : elemA Try.prog 55 = some 155 := by kernel_rfl
theorem sizeA_155 : sizeA Try.prog 155 = some 4 := by kernel_rfl
theorem aggA_155 : aggA Try.prog 155 = some true := by kernel_rfl
theorem call_142 : callable Try.prog 142 = true := by kernel_rfl
theorem zeroA_64 : zeroA Try.prog 64 = some (.agg #[(.int .i64 0), (.int .i64 0), (.int .i64 0), (.slice none 0 0)]) := by kernel_rfl
theorem fieldA_57_0 : fieldA Try.prog 57 0 = some 0 := by kernel_rfl
theorem fieldA_64_0 : fieldA Try.prog 64 0 = some 0 := by kernel_rfl
theorem fieldA_57_1 : fieldA Try.prog 57 1 = some 1 := by kernel_rfl
theorem fieldA_64_1 : fieldA Try.prog 64 1 = some 1 := by kernel_rfl
theorem fieldA_57_2 : fieldA Try.prog 57 2 = some 2 := by kernel_rfl
theorem fieldA_64_2 : fieldA Try.prog 64 2 = some 2 := by kernel_rfl
theorem call_126 : callable Try.prog 126 = true := by kernel_rfl
theorem fieldA_64_3 : fieldA Try.prog 64 3 = some 3 := by kernel_rfl
theorem sizeA_62 : sizeA Try.prog 62 = some 1 := by kernel_rfl
theorem aggA_64 : aggA Try.prog 64 = some true := by kernel_rfl
theorem sizeA_64 : sizeA Try.prog 64 = some 4 := by kernel_rfl
theorem zeroA_66 : zeroA Try.prog 66 = some (.agg #[(.int .i64 0), (.int .i64 0), (.int .i64 0), (.slice none 0 0), (.int .i64 0)]) := by kernel_rfl
theorem call_97 : callable Try.prog 97 = true := by kernel_rfl
theorem fieldA_66_0 : fieldA Try.prog 66 0 = some 0 := by kernel_rfl
theorem fieldA_59_1 : fieldA Try.prog 59 1 = some 4 := by kernel_rfl
theorem fieldA_66_1 : fieldA Try.prog 66 1 = some 4 := by kernel_rfl
theorem aggA_66 : aggA Try.prog 66 = some true := by kernel_rfl
theorem sizeA_66 : sizeA Try.prog 66 = some 5 := by kernel_rfl
theorem call_141 : callable Try.prog 141 = true := by kernel_rfl
theorem call_123 : callable Try.prog 123 = true := by kernel_rfl
theorem aggA_62 : aggA Try.prog 62 = some false := by kernel_rfl
theorem lenT_62 : lenT Try.prog 62 = some false := by kernel_rfl
theorem call_139 : callable Try.prog 139 = true := by kernel_rfl
theorem call_140 : callable Try.prog 140 = true := by kernel_rfl
theorem call_122 : callable Try.prog 122 = true := by kernel_rfl
theorem call_125 : callable Try.prog 125 = true := by kernel_rfl
theorem call_124 : callable Try.prog 124 = true := by kernel_rfl
theorem call_94 : callable Try.prog 94 = true := by kernel_rfl
theorem call_95 : callable Try.prog 95 = true := by kernel_rfl
theorem call_96 : callable Try.prog 96 = true := by kernel_rfl
theorem call_154 : callable Try.prog 154 = true := by kernel_rfl
theorem call_128 : callable Try.prog 128 = true := by kernel_rfl
theorem call_129 : callable Try.prog 129 = true := by kernel_rfl
theorem call_157 : callable Try.prog 157 = true := by kernel_rfl
theorem call_156 : callable Try.prog 156 = true := by kernel_rfl
theorem call_155 : callable Try.prog 155 = true := by kernel_rfl
theorem call_143 : callable Try.prog 143 = true := by kernel_rfl
theorem call_144 : callable Try.prog 144 = true := by kernel_rfl
theorem call_127 : callable Try.prog 127 = true := by kernel_rfl
theorem call_131 : callable Try.prog 131 = true := by kernel_rfl
theorem call_98 : callable Try.prog 98 = true := by kernel_rfl
theorem call_99 : callable Try.prog 99 = true := by kernel_rfl
theorem call_100 : callable Try.prog 100 = true := by kernel_rfl
theorem call_145 : callable Try.prog 145 = true := by kernel_rfl
theorem call_132 : callable Try.prog 132 = true := by kernel_rfl
theorem call_101 : callable Try.prog 101 = true := by kernel_rfl
theorem aggA_59 : aggA Try.prog 59 = some true := by kernel_rfl
theorem sizeA_59 : sizeA Try.prog 59 = some 5 := by kernel_rfl
theorem call_51 : callable Try.prog 51 = true := by kernel_rfl
theorem call_53 : callable Try.prog 53 = true := by kernel_rfl
theorem call_52 : callable Try.prog 52 = true := by kernel_rfl
theorem call_54 : callable Try.prog 54 = true := by kernel_rfl
theorem call_55 : callable Try.prog 55 = true := by kernel_rfl
theorem cellsOf_3 : Try.prog.cellsOf 3 = 1 := by kernel_rfl
theorem cellsOf_75 : Try.prog.cellsOf 75 = 3 := by kernel_rfl
theorem cellsOf_22 : Try.prog.cellsOf 22 = 1 := by kernel_rfl
theorem cellsOf_94 : Try.prog.cellsOf 94 = 2 := by kernel_rfl
theorem cellsOf_4 : Try.prog.cellsOf 4 = 1 := by kernel_rfl
theorem cellsOf_155 : Try.prog.cellsOf 155 = 4 := by kernel_rfl
theorem cellsOf_55 : Try.prog.cellsOf 55 = 1 := by kernel_rfl
theorem cellsOf_57 : Try.prog.cellsOf 57 = 4 := by kernel_rfl
theorem cellsOf_59 : Try.prog.cellsOf 59 = 5 := by kernel_rfl
end Go.Proofs.Ytpikdepigcmfnaa
