/- Facts about the program's types and functions, each by computation. -/
import Derived.Test.YtoeeihjhakacfaaF3
import Derived.Test.YtoeeihjhakacfaaProg
namespace Go.Proofs.Ytoeeihjhakacfaa
open Go Go.RowKit E
set_option linter.unusedVariables false
theorem lenT_40 : lenT Try.prog 40 = some false := by kernel_rfl
theorem zeroA_63 : zeroA Try.prog 63 = some (.agg #[(.int .i64 0), (.int .i64 0), (.int .i64 0)]) := by kernel_rfl
theorem fieldA_65_0 : fieldA Try.prog 65 0 = some 0 := by kernel_rfl
theorem aggA_3 : aggA Try.prog 3 = some false := by kernel_rfl
theorem fieldA_63_0 : fieldA Try.prog 63 0 = some 0 := by kernel_rfl
theorem sizeA_3 : sizeA Try.prog 3 = some 1 := by kernel_rfl
theorem fieldA_65_1 : fieldA Try.prog 65 1 = some 1 := by kernel_rfl
theorem fieldA_63_1 : fieldA Try.prog 63 1 = some 1 := by kernel_rfl
theorem fieldA_65_2 : fieldA Try.prog 65 2 = some 2 := by kernel_rfl
theorem fieldA_63_2 : fieldA Try.prog 63 2 = some 2 := by kernel_rfl
theorem aggA_63 : aggA Try.prog 63 = some true := by kernel_rfl
theorem sizeA_63 : sizeA Try.prog 63 = some 3 := by kernel_rfl
theorem elemA_44 : elemA Try.prog 44 = some 63 := by kernel_rfl
theorem bytesA_63 : bytesA Try.prog 63 = some 24 := by kernel_rfl
theorem elemA_40 : elemA Try.prog 40 = some 65 := by kernel_rfl
theorem sizeA_65 : sizeA Try.prog 65 = some 3 := by kernel_rfl
theorem aggA_65 : aggA Try.prog 65 = some true := by kernel_rfl
theorem call_38 : callable Try.prog 38 = true := by kernel_rfl
theorem call_45 : callable Try.prog 45 = true := by kernel_rfl
theorem elemA_26 : elemA Try.prog 26 = some 3 := by kernel_rfl
theorem zeroA_3 : zeroA Try.prog 3 = some (.int .i64 0) := by kernel_rfl
theorem lenT_44 : lenT Try.prog 44 = some false := by kernel_rfl
theorem bytesA_3 : bytesA Try.prog 3 = some 8 := by kernel_rfl
theorem mixed : Try.prog.follows .mixedOrders = true := by kernel_rfl
theorem call_53 : callable Try.prog 53 = true := by kernel_rfl
theorem lenT_26 : lenT Try.prog 26 = some false := by kernel_rfl
theorem call_51 : callable Try.prog 51 = true := by kernel_rfl
theorem call_52 : callable Try.prog 52 = true := by kernel_rfl
theorem call_46 : callable Try.prog 46 = true := by kernel_rfl
theorem elemA_42 : elemA Try.prog 42 = some 4 := by kernel_rfl
theorem sizeA_4 : sizeA Try.prog 4 = some 1 := by kernel_rfl
theorem zeroA_4 : zeroA Try.prog 4 = some (.bool false) := by kernel_rfl
theorem call_25 : callable Try.prog 25 = true := by kernel_rfl
theorem bytesA_4 : bytesA Try.prog 4 = some 1 := by kernel_rfl
theorem aggA_4 : aggA Try.prog 4 = some false := by kernel_rfl
theorem call_34 : callable Try.prog 34 = true := by kernel_rfl
theorem call_35 : callable Try.prog 35 = true := by kernel_rfl
theorem call_36 : callable Try.prog 36 = true := by kernel_rfl
theorem call_37 : callable Try.prog 37 = true := by kernel_rfl
theorem call_54 : callable Try.prog 54 = true := by kernel_rfl
theorem call_65 : callable Try.prog 65 = true := by kernel_rfl
theorem call_72 : callable Try.prog 72 = true := by kernel_rfl
theorem call_66 : callable Try.prog 66 = true := by kernel_rfl
theorem call_56 : callable Try.prog 56 = true := by kernel_rfl
theorem call_55 : callable Try.prog 55 = true := by kernel_rfl
theorem und_3 : Try.prog.underlying 3 = some (.int .i64) := by kernel_rfl
theorem und_81 : Try.prog.underlying 81 = some (.int .u64) := by kernel_rfl
theorem call_49 : callable Try.prog 49 = true := by kernel_rfl
theorem call_67 : callable Try.prog 67 = true := by kernel_rfl
theorem call_57 : callable Try.prog 57 = true := by kernel_rfl
theorem call_58 : callable Try.prog 58 = true := by kernel_rfl
theorem call_59 : callable Try.prog 59 = true := by kernel_rfl
theorem call_39 : callable Try.prog 39 = true := by kernel_rfl
theorem call_40 : callable Try.prog 40 = true := by kernel_rfl
theorem call_41 : callable Try.prog 41 = true := by kernel_rfl
theorem call_42 : callable Try.prog 42 = true := by kernel_rfl
theorem lenT_42 : lenT Try.prog 42 = some false := by kernel_rfl
theorem und_4 : Try.prog.underlying 4 = some .bool := by kernel_rfl
theorem call_43 : callable Try.prog 43 = true := by kernel_rfl
theorem call_14 : callable Try.prog 14 = true := by kernel_rfl
theorem call_16 : callable Try.prog 16 = true := by kernel_rfl
theorem call_15 : callable Try.prog 15 = true := by kernel_rfl
theorem call_17 : callable Try.prog 17 = true := by kernel_rfl
theorem call_18 : callable Try.prog 18 = true := by kernel_rfl
theorem call_19 : callable Try.prog 19 = true := by kernel_rfl
theorem call_20 : callable Try.prog 20 = true := by kernel_rfl
theorem call_21 : callable Try.prog 21 = true := by kernel_rfl
theorem call_22 : callable Try.prog 22 = true := by kernel_rfl
theorem cellsOf_3 : Try.prog.cellsOf 3 = 1 := by kernel_rfl
theorem cellsOf_65 : Try.prog.cellsOf 65 = 3 := by kernel_rfl
end Go.Proofs.Ytoeeihjhakacfaa
