/- Facts about the program's types and functions, each by computation. -/
import Derived.Test.YtllpbgcajgbfbaaF8
import Derived.Test.YtllpbgcajgbfbaaProg
namespace Go.Proofs.Ytllpbgcajgbfbaa
open Go Go.RowKit E
set_option linter.unusedVariables false
theorem lenT_40 : lenT Try.prog 40 = some false := by kernel_rfl
theorem plan_79 : planA Try.prog 79 = some [(0, 1), (1, 1), (2, 1)] := by kernel_rfl
theorem zeroA_79 : zeroA Try.prog 79 = some (.agg #[(.slice none 0 0), (.int .i64 0), (.int .i64 0)]) := by kernel_rfl
theorem elemA_40 : elemA Try.prog 40 = some 5 := by kernel_rfl
theorem sizeA_5 : sizeA Try.prog 5 = some 1 := by kernel_rfl
theorem aggA_5 : aggA Try.prog 5 = some false := by kernel_rfl
theorem und_5 : Try.prog.underlying 5 = some (.int .u8) := by kernel_rfl
theorem und_3 : Try.prog.underlying 3 = some (.int .i64) := by kernel_rfl
theorem fieldA_79_2 : fieldA Try.prog 79 2 = some 2 := by kernel_rfl
theorem aggA_3 : aggA Try.prog 3 = some false := by kernel_rfl
theorem sizeA_3 : sizeA Try.prog 3 = some 1 := by kernel_rfl
theorem mixed : Try.prog.follows .mixedOrders = true := by kernel_rfl
theorem fieldA_79_1 : fieldA Try.prog 79 1 = some 1 := by kernel_rfl
theorem fieldA_79_0 : fieldA Try.prog 79 0 = some 0 := by kernel_rfl
theorem aggA_40 : aggA Try.prog 40 = some false := by kernel_rfl
theorem call_62 : callable Try.prog 62 = true := by kernel_rfl
theorem call_42 : callable Try.prog 42 = true := by kernel_rfl
theorem elemA_31 : elemA Try.prog 31 = some 73 := by kernel_rfl
theorem sizeA_73 : sizeA Try.prog 73 = some 4 := by kernel_rfl
theorem zeroA_73 : zeroA Try.prog 73 = some (.agg #[(.int .i64 0), (.int .i64 0), (.int .i64 0), (.bool false)]) := by kernel_rfl
theorem call_59 : callable Try.prog 59 = true := by kernel_rfl
theorem plan_73 : planA Try.prog 73 = some [(0, 1), (1, 1), (2, 1), (3, 1)] := by kernel_rfl
theorem bytesA_73 : bytesA Try.prog 73 = some 32 := by kernel_rfl
theorem call_45 : callable Try.prog 45 = true := by kernel_rfl
theorem call_77 : callable Try.prog 77 = true := by kernel_rfl
theorem fieldA_73_0 : fieldA Try.prog 73 0 = some 0 := by kernel_rfl
theorem fieldA_73_1 : fieldA Try.prog 73 1 = some 1 := by kernel_rfl
theorem fieldA_73_2 : fieldA Try.prog 73 2 = some 2 := by kernel_rfl
theorem fieldA_33_0 : fieldA Try.prog 33 0 = some 0 := by kernel_rfl
theorem fieldA_33_1 : fieldA Try.prog 33 1 = some 1 := by kernel_rfl
theorem fieldA_33_2 : fieldA Try.prog 33 2 = some 2 := by kernel_rfl
theorem call_69 : callable Try.prog 69 = true := by kernel_rfl
theorem fieldA_33_3 : fieldA Try.prog 33 3 = some 3 := by kernel_rfl
theorem aggA_31 : aggA Try.prog 31 = some false := by kernel_rfl
theorem lenT_31 : lenT Try.prog 31 = some false := by kernel_rfl
theorem aggA_73 : aggA Try.prog 73 = some true := by kernel_rfl
theorem call_70 : callable Try.prog 70 = true := by kernel_rfl
theorem call_71 : callable Try.prog 71 = true := by kernel_rfl
theorem zeroA_33 : zeroA Try.prog 33 = some (.agg #[(.int .i64 0), (.int .i64 0), (.int .i64 0), (.slice none 0 0)]) := by kernel_rfl
theorem plan_33 : planA Try.prog 33 = some [(0, 1), (1, 1), (2, 1), (3, 1)] := by kernel_rfl
theorem sizeA_33 : sizeA Try.prog 33 = some 4 := by kernel_rfl
theorem aggA_33 : aggA Try.prog 33 = some true := by kernel_rfl
theorem call_51 : callable Try.prog 51 = true := by kernel_rfl
theorem elemA_26 : elemA Try.prog 26 = some 3 := by kernel_rfl
theorem bytesA_3 : bytesA Try.prog 3 = some 8 := by kernel_rfl
theorem zeroA_3 : zeroA Try.prog 3 = some (.int .i64 0) := by kernel_rfl
theorem lenT_26 : lenT Try.prog 26 = some false := by kernel_rfl
theorem sizeA_31 : sizeA Try.prog 31 = some 1 := by kernel_rfl
theorem call_61 : callable Try.prog 61 = true := by kernel_rfl
theorem fieldA_73_3 : fieldA Try.prog 73 3 = some 3 := by kernel_rfl
theorem aggA_4 : aggA Try.prog 4 = some false := by kernel_rfl
theorem call_75 : callable Try.prog 75 = true := by kernel_rfl
theorem call_74 : callable Try.prog 74 = true := by kernel_rfl
theorem call_76 : callable Try.prog 76 = true := by kernel_rfl
theorem call_58 : callable Try.prog 58 = true := by kernel_rfl
theorem call_60 : callable Try.prog 60 = true := by kernel_rfl
theorem call_54 : callable Try.prog 54 = true := by kernel_rfl
theorem zeroA_28 : zeroA Try.prog 28 = some (.agg #[(.slice none 0 0), (.int .i64 0)]) := by kernel_rfl
theorem call_29 : callable Try.prog 29 = true := by kernel_rfl
theorem plan_28 : planA Try.prog 28 = some [(0, 1), (1, 1)] := by kernel_rfl
theorem sizeA_28 : sizeA Try.prog 28 = some 2 := by kernel_rfl
theorem aggA_28 : aggA Try.prog 28 = some true := by kernel_rfl
theorem fieldA_28_0 : fieldA Try.prog 28 0 = some 0 := by kernel_rfl
theorem aggA_26 : aggA Try.prog 26 = some false := by kernel_rfl
theorem sizeA_26 : sizeA Try.prog 26 = some 1 := by kernel_rfl
theorem call_30 : callable Try.prog 30 = true := by kernel_rfl
theorem fieldA_28_1 : fieldA Try.prog 28 1 = some 1 := by kernel_rfl
theorem call_47 : callable Try.prog 47 = true := by kernel_rfl
theorem call_66 : callable Try.prog 66 = true := by kernel_rfl
theorem elemA_85 : elemA Try.prog 85 = some 26 := by kernel_rfl
theorem zeroA_26 : zeroA Try.prog 26 = some (.slice none 0 0) := by kernel_rfl
theorem elemA_44 : elemA Try.prog 44 = some 28 := by kernel_rfl
theorem lenT_85 : lenT Try.prog 85 = some false := by kernel_rfl
theorem bytesA_28 : bytesA Try.prog 28 = some 32 := by kernel_rfl
theorem call_68 : callable Try.prog 68 = true := by kernel_rfl
theorem call_67 : callable Try.prog 67 = true := by kernel_rfl
theorem bytesA_26 : bytesA Try.prog 26 = some 24 := by kernel_rfl
theorem call_19 : callable Try.prog 19 = true := by kernel_rfl
theorem call_46 : callable Try.prog 46 = true := by kernel_rfl
theorem call_39 : callable Try.prog 39 = true := by kernel_rfl
theorem call_40 : callable Try.prog 40 = true := by kernel_rfl
theorem call_41 : callable Try.prog 41 = true := by kernel_rfl
theorem call_43 : callable Try.prog 43 = true := by kernel_rfl
theorem und_88 : Try.prog.underlying 88 = some (.int .u64) := by kernel_rfl
theorem call_78 : callable Try.prog 78 = true := by kernel_rfl
theorem call_48 : callable Try.prog 48 = true := by kernel_rfl
theorem call_49 : callable Try.prog 49 = true := by kernel_rfl
theorem call_81 : callable Try.prog 81 = true := by kernel_rfl
theorem call_80 : callable Try.prog 80 = true := by kernel_rfl
theorem call_79 : callable Try.prog 79 = true := by kernel_rfl
theorem call_72 : callable Try.prog 72 = true := by kernel_rfl
theorem call_73 : callable Try.prog 73 = true := by kernel_rfl
theorem call_56 : callable Try.prog 56 = true := by kernel_rfl
theorem call_32 : callable Try.prog 32 = true := by kernel_rfl
theorem call_50 : callable Try.prog 50 = true := by kernel_rfl
theorem und_26 : Try.prog.underlying 26 = some (.slice 3) := by kernel_rfl
theorem call_65 : callable Try.prog 65 = true := by kernel_rfl
theorem call_63 : callable Try.prog 63 = true := by kernel_rfl
theorem call_64 : callable Try.prog 64 = true := by kernel_rfl
theorem call_20 : callable Try.prog 20 = true := by kernel_rfl
theorem call_44 : callable Try.prog 44 = true := by kernel_rfl
theorem call_15 : callable Try.prog 15 = true := by kernel_rfl
theorem call_16 : callable Try.prog 16 = true := by kernel_rfl
theorem call_17 : callable Try.prog 17 = true := by kernel_rfl
theorem lenT_44 : lenT Try.prog 44 = some false := by kernel_rfl
theorem call_18 : callable Try.prog 18 = true := by kernel_rfl
theorem call_21 : callable Try.prog 21 = true := by kernel_rfl
theorem call_22 : callable Try.prog 22 = true := by kernel_rfl
theorem cellsOf_5 : Try.prog.cellsOf 5 = 1 := by kernel_rfl
end Go.Proofs.Ytllpbgcajgbfbaa
