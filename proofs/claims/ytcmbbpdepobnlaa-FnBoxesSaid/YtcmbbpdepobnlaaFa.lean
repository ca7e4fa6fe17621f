/- Facts about the program's types and functions, each by computation. -/
import Derived.Test.YtcmbbpdepobnlaaF6
import Derived.Test.YtcmbbpdepobnlaaProg
namespace Go.Proofs.Ytcmbbpdepobnlaa
open Go Go.RowKit E
set_option linter.unusedVariables false
theorem lenT_22 : lenT Try.prog 22 = some false := by kernel_rfl
theorem plan_108 : planA Try.prog 108 = some [(0, 1), (1, 1), (2, 1)] := by kernel_rfl
theorem zeroA_108 : zeroA Try.prog 108 = some (.agg #[(.slice none 0 0), (.int .i64 0), (.int .i64 0)]) := by kernel_rfl
theorem elemA_22 : elemA Try.prog 22 = some 5 := by kernel_rfl
theorem sizeA_5 : sizeA Try.prog 5 = some 1 := by kernel_rfl
theorem aggA_5 : aggA Try.prog 5 = some false := by kernel_rfl
theorem und_5 : Try.prog.underlying 5 = some (.int .u8) := by kernel_rfl
theorem und_3 : Try.prog.underlying 3 = some (.int .i64) := by kernel_rfl
theorem fieldA_108_2 : fieldA Try.prog 108 2 = some 2 := by kernel_rfl
theorem aggA_3 : aggA Try.prog 3 = some false := by kernel_rfl
theorem sizeA_3 : sizeA Try.prog 3 = some 1 := by kernel_rfl
theorem mixed : Try.prog.follows .mixedOrders = true := by kernel_rfl
theorem fieldA_108_1 : fieldA Try.prog 108 1 = some 1 := by kernel_rfl
theorem fieldA_108_0 : fieldA Try.prog 108 0 = some 0 := by kernel_rfl
theorem aggA_22 : aggA Try.prog 22 = some false := by kernel_rfl
theorem call_93 : callable Try.prog 93 = true := by kernel_rfl
theorem call_55 : callable Try.prog 55 = true := by kernel_rfl
theorem elemA_27 : elemA Try.prog 27 = some 3 := by kernel_rfl
theorem zeroA_3 : zeroA Try.prog 3 = some (.int .i64 0) := by kernel_rfl
theorem call_61 : callable Try.prog 61 = true := by kernel_rfl
theorem bytesA_3 : bytesA Try.prog 3 = some 8 := by kernel_rfl
theorem lenT_27 : lenT Try.prog 27 = some false := by kernel_rfl
theorem call_40 : callable Try.prog 40 = true := by kernel_rfl
theorem call_56 : callable Try.prog 56 = true := by kernel_rfl
theorem call_59 : callable Try.prog 59 = true := by kernel_rfl
theorem call_48 : callable Try.prog 48 = true := by kernel_rfl
theorem call_20 : callable Try.prog 20 = true := by kernel_rfl
theorem call_51 : callable Try.prog 51 = true := by kernel_rfl
theorem call_41 : callable Try.prog 41 = true := by kernel_rfl
theorem call_94 : callable Try.prog 94 = true := by kernel_rfl
theorem call_57 : callable Try.prog 57 = true := by kernel_rfl
theorem call_58 : callable Try.prog 58 = true := by kernel_rfl
theorem call_50 : callable Try.prog 50 = true := by kernel_rfl
theorem elemA_24 : elemA Try.prog 24 = some 73 := by kernel_rfl
theorem sizeA_73 : sizeA Try.prog 73 = some 4 := by kernel_rfl
theorem zeroA_73 : zeroA Try.prog 73 = some (.agg #[(.int .i64 0), (.int .i64 0), (.int .i64 0), (.bool false)]) := by kernel_rfl
theorem plan_73 : planA Try.prog 73 = some [(0, 1), (1, 1), (2, 1), (3, 1)] := by kernel_rfl
theorem bytesA_73 : bytesA Try.prog 73 = some 32 := by kernel_rfl
theorem call_83 : callable Try.prog 83 = true := by kernel_rfl
theorem fieldA_73_0 : fieldA Try.prog 73 0 = some 0 := by kernel_rfl
theorem fieldA_73_1 : fieldA Try.prog 73 1 = some 1 := by kernel_rfl
theorem fieldA_73_2 : fieldA Try.prog 73 2 = some 2 := by kernel_rfl
theorem fieldA_26_0 : fieldA Try.prog 26 0 = some 0 := by kernel_rfl
theorem fieldA_26_1 : fieldA Try.prog 26 1 = some 1 := by kernel_rfl
theorem fieldA_26_2 : fieldA Try.prog 26 2 = some 2 := by kernel_rfl
theorem call_42 : callable Try.prog 42 = true := by kernel_rfl
theorem fieldA_26_3 : fieldA Try.prog 26 3 = some 3 := by kernel_rfl
theorem aggA_24 : aggA Try.prog 24 = some false := by kernel_rfl
theorem lenT_24 : lenT Try.prog 24 = some false := by kernel_rfl
theorem aggA_73 : aggA Try.prog 73 = some true := by kernel_rfl
theorem call_43 : callable Try.prog 43 = true := by kernel_rfl
theorem call_44 : callable Try.prog 44 = true := by kernel_rfl
theorem zeroA_26 : zeroA Try.prog 26 = some (.agg #[(.int .i64 0), (.int .i64 0), (.int .i64 0), (.slice none 0 0)]) := by kernel_rfl
theorem plan_26 : planA Try.prog 26 = some [(0, 1), (1, 1), (2, 1), (3, 1)] := by kernel_rfl
theorem sizeA_26 : sizeA Try.prog 26 = some 4 := by kernel_rfl
theorem aggA_26 : aggA Try.prog 26 = some true := by kernel_rfl
theorem call_10 : callable Try.prog 10 = true := by kernel_rfl
theorem sizeA_24 : sizeA Try.prog 24 = some 1 := by kernel_rfl
theorem fieldA_73_3 : fieldA Try.prog 73 3 = some 3 := by kernel_rfl
theorem aggA_4 : aggA Try.prog 4 = some false := by kernel_rfl
theorem call_96 : callable Try.prog 96 = true := by kernel_rfl
theorem call_95 : callable Try.prog 95 = true := by kernel_rfl
theorem call_104 : callable Try.prog 104 = true := by kernel_rfl
theorem call_66 : callable Try.prog 66 = true := by kernel_rfl
theorem call_80 : callable Try.prog 80 = true := by kernel_rfl
theorem call_60 : callable Try.prog 60 = true := by kernel_rfl
theorem call_62 : callable Try.prog 62 = true := by kernel_rfl
theorem und_135 : Try.prog.underlying 135 = some (.int .u64) := by kernel_rfl
theorem call_107 : callable Try.prog 107 = true := by kernel_rfl
theorem call_108 : callable Try.prog 108 = true := by kernel_rfl
theorem call_109 : callable Try.prog 109 = true := by kernel_rfl
theorem call_120 : callable Try.prog 120 = true := by kernel_rfl
theorem call_111 : callable Try.prog 111 = true := by kernel_rfl
theorem call_110 : callable Try.prog 110 = true := by kernel_rfl
theorem call_84 : callable Try.prog 84 = true := by kernel_rfl
theorem call_85 : callable Try.prog 85 = true := by kernel_rfl
theorem call_46 : callable Try.prog 46 = true := by kernel_rfl
theorem call_49 : callable Try.prog 49 = true := by kernel_rfl
theorem call_52 : callable Try.prog 52 = true := by kernel_rfl
theorem call_63 : callable Try.prog 63 = true := by kernel_rfl
theorem call_45 : callable Try.prog 45 = true := by kernel_rfl
theorem call_64 : callable Try.prog 64 = true := by kernel_rfl
theorem call_65 : callable Try.prog 65 = true := by kernel_rfl
theorem call_8 : callable Try.prog 8 = true := by kernel_rfl
theorem call_15 : callable Try.prog 15 = true := by kernel_rfl
theorem call_16 : callable Try.prog 16 = true := by kernel_rfl
theorem call_18 : callable Try.prog 18 = true := by kernel_rfl
theorem call_17 : callable Try.prog 17 = true := by kernel_rfl
theorem call_19 : callable Try.prog 19 = true := by kernel_rfl
theorem call_21 : callable Try.prog 21 = true := by kernel_rfl
theorem call_13 : callable Try.prog 13 = true := by kernel_rfl
theorem call_22 : callable Try.prog 22 = true := by kernel_rfl
theorem call_23 : callable Try.prog 23 = true := by kernel_rfl
theorem cellsOf_5 : Try.prog.cellsOf 5 = 1 := by kernel_rfl
end Go.Proofs.Ytcmbbpdepobnlaa
