/- Facts about the program's types and functions, each by computation. -/
import Derived.Test.YtmmgpcnngaekoaaF6
import Derived.Test.YtmmgpcnngaekoaaProg
namespace Go.Proofs.Ytmmgpcnngaekoaa
open Go Go.RowKit E
set_option linter.unusedVariables false
theorem lenT_22 : lenT Try.prog 22 = some false := by kernel_rfl
theorem plan_84 : planA Try.prog 84 = some [(0, 1), (1, 1), (2, 1)] := by kernel_rfl
theorem zeroA_84 : zeroA Try.prog 84 = some (.agg #[(.slice none 0 0), (.int .i64 0), (.int .i64 0)]) := by kernel_rfl
theorem elemA_22 : elemA Try.prog 22 = some 5 := by kernel_rfl
theorem sizeA_5 : sizeA Try.prog 5 = some 1 := by kernel_rfl
theorem aggA_5 : aggA Try.prog 5 = some false := by kernel_rfl
theorem und_5 : Try.prog.underlying 5 = some (.int .u8) := by kernel_rfl
theorem und_3 : Try.prog.underlying 3 = some (.int .i64) := by kernel_rfl
theorem fieldA_84_2 : fieldA Try.prog 84 2 = some 2 := by kernel_rfl
theorem aggA_3 : aggA Try.prog 3 = some false := by kernel_rfl
theorem sizeA_3 : sizeA Try.prog 3 = some 1 := by kernel_rfl
theorem mixed : Try.prog.follows .mixedOrders = true := by kernel_rfl
theorem fieldA_84_1 : fieldA Try.prog 84 1 = some 1 := by kernel_rfl
theorem fieldA_84_0 : fieldA Try.prog 84 0 = some 0 := by kernel_rfl
theorem aggA_22 : aggA Try.prog 22 = some false := by kernel_rfl
theorem call_68 : callable Try.prog 68 = true := by kernel_rfl
theorem call_34 : callable Try.prog 34 = true := by kernel_rfl
theorem plan_31 : planA Try.prog 31 = some [(0, 1), (1, 1), (2, 1)] := by kernel_rfl
theorem zeroA_31 : zeroA Try.prog 31 = some (.agg #[(.int .i64 0), (.int .i64 0), (.int .i64 0)]) := by kernel_rfl
theorem elemA_24 : elemA Try.prog 24 = some 31 := by kernel_rfl
theorem sizeA_31 : sizeA Try.prog 31 = some 3 := by kernel_rfl
theorem bytesA_31 : bytesA Try.prog 31 = some 24 := by kernel_rfl
theorem call_82 : callable Try.prog 82 = true := by kernel_rfl
theorem lenT_24 : lenT Try.prog 24 = some false := by kernel_rfl
theorem call_54 : callable Try.prog 54 = true := by kernel_rfl
theorem fieldA_31_0 : fieldA Try.prog 31 0 = some 0 := by kernel_rfl
theorem fieldA_31_1 : fieldA Try.prog 31 1 = some 1 := by kernel_rfl
theorem fieldA_31_2 : fieldA Try.prog 31 2 = some 2 := by kernel_rfl
theorem elemA_25 : elemA Try.prog 25 = some 3 := by kernel_rfl
theorem zeroA_3 : zeroA Try.prog 3 = some (.int .i64 0) := by kernel_rfl
theorem bytesA_3 : bytesA Try.prog 3 = some 8 := by kernel_rfl
theorem call_31 : callable Try.prog 31 = true := by kernel_rfl
theorem call_32 : callable Try.prog 32 = true := by kernel_rfl
theorem call_33 : callable Try.prog 33 = true := by kernel_rfl
theorem call_35 : callable Try.prog 35 = true := by kernel_rfl
theorem call_36 : callable Try.prog 36 = true := by kernel_rfl
theorem aggA_31 : aggA Try.prog 31 = some true := by kernel_rfl
theorem call_39 : callable Try.prog 39 = true := by kernel_rfl
theorem lenT_25 : lenT Try.prog 25 = some false := by kernel_rfl
theorem call_37 : callable Try.prog 37 = true := by kernel_rfl
theorem call_38 : callable Try.prog 38 = true := by kernel_rfl
theorem call_90 : callable Try.prog 90 = true := by kernel_rfl
theorem call_71 : callable Try.prog 71 = true := by kernel_rfl
theorem call_72 : callable Try.prog 72 = true := by kernel_rfl
theorem call_43 : callable Try.prog 43 = true := by kernel_rfl
theorem call_42 : callable Try.prog 42 = true := by kernel_rfl
theorem und_57 : Try.prog.underlying 57 = some (.int .u64) := by kernel_rfl
theorem call_40 : callable Try.prog 40 = true := by kernel_rfl
theorem call_12 : callable Try.prog 12 = true := by kernel_rfl
theorem elemA_58 : elemA Try.prog 58 = some 4 := by kernel_rfl
theorem sizeA_4 : sizeA Try.prog 4 = some 1 := by kernel_rfl
theorem bytesA_4 : bytesA Try.prog 4 = some 1 := by kernel_rfl
theorem zeroA_4 : zeroA Try.prog 4 = some (.bool false) := by kernel_rfl
theorem aggA_4 : aggA Try.prog 4 = some false := by kernel_rfl
theorem lenT_58 : lenT Try.prog 58 = some false := by kernel_rfl
theorem elemA_59 : elemA Try.prog 59 = some 58 := by kernel_rfl
theorem sizeA_58 : sizeA Try.prog 58 = some 1 := by kernel_rfl
theorem zeroA_58 : zeroA Try.prog 58 = some (.slice none 0 0) := by kernel_rfl
theorem bytesA_58 : bytesA Try.prog 58 = some 24 := by kernel_rfl
theorem aggA_58 : aggA Try.prog 58 = some false := by kernel_rfl
theorem call_69 : callable Try.prog 69 = true := by kernel_rfl
theorem call_70 : callable Try.prog 70 = true := by kernel_rfl
theorem call_9 : callable Try.prog 9 = true := by kernel_rfl
theorem call_41 : callable Try.prog 41 = true := by kernel_rfl
theorem call_7 : callable Try.prog 7 = true := by kernel_rfl
theorem call_8 : callable Try.prog 8 = true := by kernel_rfl
theorem call_10 : callable Try.prog 10 = true := by kernel_rfl
theorem call_11 : callable Try.prog 11 = true := by kernel_rfl
theorem und_4 : Try.prog.underlying 4 = some .bool := by kernel_rfl
theorem cellsOf_5 : Try.prog.cellsOf 5 = 1 := by kernel_rfl
end Go.Proofs.Ytmmgpcnngaekoaa
