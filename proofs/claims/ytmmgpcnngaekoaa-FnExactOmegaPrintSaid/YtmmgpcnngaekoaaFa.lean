/- Facts about the program's types and functions, each by computation. -/
import Derived.Test.YtmmgpcnngaekoaaF6
import Derived.Test.YtmmgpcnngaekoaaProg
namespace Go.Proofs.Ytmmgpcnngaekoaa
open Go Go.RowKit E
set_option linter.unusedVariables false
theorem lenT_64 : lenT Try.prog 64 = some false := by kernel_rfl
theorem fieldA_66_0 : fieldA Try.prog 66 0 = some 0 := by kernel_rfl
theorem aggA_64 : aggA Try.prog 64 = some false := by kernel_rfl
theorem call_73 : callable Try.prog 73 = true := by kernel_rfl
theorem fieldA_66_1 : fieldA Try.prog 66 1 = some 1 := by kernel_rfl
theorem lenT_32 : lenT Try.prog 32 = some false := by kernel_rfl
theorem elemA_32 : elemA Try.prog 32 = some 66 := by kernel_rfl
theorem sizeA_66 : sizeA Try.prog 66 = some 2 := by kernel_rfl
theorem aggA_66 : aggA Try.prog 66 = some true := by kernel_rfl
theorem call_44 : callable Try.prog 44 = true := by kernel_rfl
theorem zeroA_31 : zeroA Try.prog 31 = some (.agg #[(.int .i64 0), (.int .i64 0), (.int .i64 0)]) := by kernel_rfl
theorem fieldA_111_0 : fieldA Try.prog 111 0 = some 0 := by kernel_rfl
theorem aggA_3 : aggA Try.prog 3 = some false := by kernel_rfl
theorem fieldA_31_0 : fieldA Try.prog 31 0 = some 0 := by kernel_rfl
theorem sizeA_3 : sizeA Try.prog 3 = some 1 := by kernel_rfl
theorem fieldA_111_1 : fieldA Try.prog 111 1 = some 1 := by kernel_rfl
theorem fieldA_31_1 : fieldA Try.prog 31 1 = some 1 := by kernel_rfl
theorem fieldA_111_2 : fieldA Try.prog 111 2 = some 2 := by kernel_rfl
theorem fieldA_31_2 : fieldA Try.prog 31 2 = some 2 := by kernel_rfl
theorem aggA_31 : aggA Try.prog 31 = some true := by kernel_rfl
theorem sizeA_31 : sizeA Try.prog 31 = some 3 := by kernel_rfl
theorem elemA_24 : elemA Try.prog 24 = some 31 := by kernel_rfl
theorem bytesA_31 : bytesA Try.prog 31 = some 24 := by kernel_rfl
theorem elemA_64 : elemA Try.prog 64 = some 111 := by kernel_rfl
theorem sizeA_111 : sizeA Try.prog 111 = some 3 := by kernel_rfl
theorem aggA_111 : aggA Try.prog 111 = some true := by kernel_rfl
theorem call_91 : callable Try.prog 91 = true := by kernel_rfl
theorem zeroA_69 : zeroA Try.prog 69 = some (.agg #[(.slice none 0 0), (.slice none 0 0)]) := by kernel_rfl
theorem call_74 : callable Try.prog 74 = true := by kernel_rfl
theorem fieldA_69_0 : fieldA Try.prog 69 0 = some 0 := by kernel_rfl
theorem sizeA_24 : sizeA Try.prog 24 = some 1 := by kernel_rfl
theorem fieldA_69_1 : fieldA Try.prog 69 1 = some 1 := by kernel_rfl
theorem aggA_69 : aggA Try.prog 69 = some true := by kernel_rfl
theorem sizeA_69 : sizeA Try.prog 69 = some 2 := by kernel_rfl
theorem elemA_35 : elemA Try.prog 35 = some 69 := by kernel_rfl
theorem bytesA_69 : bytesA Try.prog 69 = some 48 := by kernel_rfl
theorem call_47 : callable Try.prog 47 = true := by kernel_rfl
theorem call_36 : callable Try.prog 36 = true := by kernel_rfl
theorem elemA_25 : elemA Try.prog 25 = some 3 := by kernel_rfl
theorem zeroA_3 : zeroA Try.prog 3 = some (.int .i64 0) := by kernel_rfl
theorem lenT_24 : lenT Try.prog 24 = some false := by kernel_rfl
theorem bytesA_3 : bytesA Try.prog 3 = some 8 := by kernel_rfl
theorem mixed : Try.prog.follows .mixedOrders = true := by kernel_rfl
theorem call_39 : callable Try.prog 39 = true := by kernel_rfl
theorem lenT_25 : lenT Try.prog 25 = some false := by kernel_rfl
theorem call_37 : callable Try.prog 37 = true := by kernel_rfl
theorem call_38 : callable Try.prog 38 = true := by kernel_rfl
theorem lenT_35 : lenT Try.prog 35 = some false := by kernel_rfl
theorem aggA_24 : aggA Try.prog 24 = some false := by kernel_rfl
theorem call_9 : callable Try.prog 9 = true := by kernel_rfl
theorem und_3 : Try.prog.underlying 3 = some (.int .i64) := by kernel_rfl
theorem und_5 : Try.prog.underlying 5 = some (.int .u8) := by kernel_rfl
theorem elemA_22 : elemA Try.prog 22 = some 5 := by kernel_rfl
theorem sizeA_5 : sizeA Try.prog 5 = some 1 := by kernel_rfl
theorem zeroA_5 : zeroA Try.prog 5 = some (.int .u8 0) := by kernel_rfl
theorem und_9 : Try.prog.underlying 9 = some .string := by kernel_rfl
theorem call_83 : callable Try.prog 83 = true := by kernel_rfl
theorem call_55 : callable Try.prog 55 = true := by kernel_rfl
theorem call_45 : callable Try.prog 45 = true := by kernel_rfl
theorem call_46 : callable Try.prog 46 = true := by kernel_rfl
theorem call_90 : callable Try.prog 90 = true := by kernel_rfl
theorem call_71 : callable Try.prog 71 = true := by kernel_rfl
theorem call_72 : callable Try.prog 72 = true := by kernel_rfl
theorem call_43 : callable Try.prog 43 = true := by kernel_rfl
theorem call_42 : callable Try.prog 42 = true := by kernel_rfl
theorem call_12 : callable Try.prog 12 = true := by kernel_rfl
theorem elemA_71 : elemA Try.prog 71 = some 9 := by kernel_rfl
theorem sizeA_9 : sizeA Try.prog 9 = some 1 := by kernel_rfl
theorem bytesA_9 : bytesA Try.prog 9 = some 16 := by kernel_rfl
theorem zeroA_9 : zeroA Try.prog 9 = some (.string ⟨#[]⟩) := by kernel_rfl
theorem aggA_9 : aggA Try.prog 9 = some false := by kernel_rfl
theorem call_51 : callable Try.prog 51 = true := by kernel_rfl
theorem call_48 : callable Try.prog 48 = true := by kernel_rfl
theorem call_49 : callable Try.prog 49 = true := by kernel_rfl
theorem call_19 : callable Try.prog 19 = true := by kernel_rfl
theorem call_94 : callable Try.prog 94 = true := by kernel_rfl
theorem call_78 : callable Try.prog 78 = true := by kernel_rfl
theorem call_50 : callable Try.prog 50 = true := by kernel_rfl
theorem call_13 : callable Try.prog 13 = true := by kernel_rfl
theorem call_15 : callable Try.prog 15 = true := by kernel_rfl
theorem call_14 : callable Try.prog 14 = true := by kernel_rfl
theorem call_16 : callable Try.prog 16 = true := by kernel_rfl
theorem call_17 : callable Try.prog 17 = true := by kernel_rfl
theorem cellsOf_3 : Try.prog.cellsOf 3 = 1 := by kernel_rfl
theorem cellsOf_111 : Try.prog.cellsOf 111 = 3 := by kernel_rfl
theorem cellsOf_64 : Try.prog.cellsOf 64 = 1 := by kernel_rfl
theorem cellsOf_66 : Try.prog.cellsOf 66 = 2 := by kernel_rfl
end Go.Proofs.Ytmmgpcnngaekoaa
