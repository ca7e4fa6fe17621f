/- Facts about the program's types and functions, each by computation. -/
import Derived.Test.YtjjlkncefgfljaaF4
import Derived.Test.YtjjlkncefgfljaaProg
namespace Go.Proofs.Ytjjlkncefgfljaa
open Go Go.RowKit E
set_option linter.unusedVariables false
theorem lenT_22 : lenT Try.prog 22 = some false := by kernel_rfl
theorem plan_105 : planA Try.prog 105 = some [(0, 1), (1, 1), (2, 1)] := by kernel_rfl
theorem zeroA_105 : zeroA Try.prog 105 = some (.agg #[(.slice none 0 0), (.int .i64 0), (.int .i64 0)]) := by kernel_rfl
theorem elemA_22 : elemA Try.prog 22 = some 5 := by kernel_rfl
theorem sizeA_5 : sizeA Try.prog 5 = some 1 := by kernel_rfl
theorem aggA_5 : aggA Try.prog 5 = some false := by kernel_rfl
theorem und_5 : Try.prog.underlying 5 = some (.int .u8) := by kernel_rfl
theorem und_3 : Try.prog.underlying 3 = some (.int .i64) := by kernel_rfl
theorem fieldA_105_2 : fieldA Try.prog 105 2 = some 2 := by kernel_rfl
theorem aggA_3 : aggA Try.prog 3 = some false := by kernel_rfl
theorem sizeA_3 : sizeA Try.prog 3 = some 1 := by kernel_rfl
theorem mixed : Try.prog.follows .mixedOrders = true := by kernel_rfl
theorem fieldA_105_1 : fieldA Try.prog 105 1 = some 1 := by kernel_rfl
theorem fieldA_105_0 : fieldA Try.prog 105 0 = some 0 := by kernel_rfl
theorem aggA_22 : aggA Try.prog 22 = some false := by kernel_rfl
theorem call_117 : callable Try.prog 117 = true := by kernel_rfl
theorem lenT_32 : lenT Try.prog 32 = some false := by kernel_rfl
theorem call_97 : callable Try.prog 97 = true := by kernel_rfl
theorem elemA_32 : elemA Try.prog 32 = some 3 := by kernel_rfl
theorem zeroA_3 : zeroA Try.prog 3 = some (.int .i64 0) := by kernel_rfl
theorem lenT_24 : lenT Try.prog 24 = some false := by kernel_rfl
theorem elemA_24 : elemA Try.prog 24 = some 59 := by kernel_rfl
theorem sizeA_59 : sizeA Try.prog 59 = some 3 := by kernel_rfl
theorem fieldA_59_0 : fieldA Try.prog 59 0 = some 0 := by kernel_rfl
theorem bytesA_3 : bytesA Try.prog 3 = some 8 := by kernel_rfl
theorem plan_59 : planA Try.prog 59 = some [(0, 1), (1, 1), (2, 1)] := by kernel_rfl
theorem zeroA_59 : zeroA Try.prog 59 = some (.agg #[(.int .i64 0), (.int .i64 0), (.int .i64 0)]) := by kernel_rfl
theorem bytesA_59 : bytesA Try.prog 59 = some 24 := by kernel_rfl
theorem call_118 : callable Try.prog 118 = true := by kernel_rfl
theorem call_51 : callable Try.prog 51 = true := by kernel_rfl
theorem call_58 : callable Try.prog 58 = true := by kernel_rfl
theorem call_63 : callable Try.prog 63 = true := by kernel_rfl
theorem call_98 : callable Try.prog 98 = true := by kernel_rfl
theorem fieldA_59_1 : fieldA Try.prog 59 1 = some 1 := by kernel_rfl
theorem fieldA_59_2 : fieldA Try.prog 59 2 = some 2 := by kernel_rfl
theorem call_50 : callable Try.prog 50 = true := by kernel_rfl
theorem call_52 : callable Try.prog 52 = true := by kernel_rfl
theorem call_90 : callable Try.prog 90 = true := by kernel_rfl
theorem aggA_59 : aggA Try.prog 59 = some true := by kernel_rfl
theorem call_100 : callable Try.prog 100 = true := by kernel_rfl
theorem call_119 : callable Try.prog 119 = true := by kernel_rfl
theorem call_99 : callable Try.prog 99 = true := by kernel_rfl
theorem call_53 : callable Try.prog 53 = true := by kernel_rfl
theorem call_60 : callable Try.prog 60 = true := by kernel_rfl
theorem fieldA_75_3 : fieldA Try.prog 75 3 = some 3 := by kernel_rfl
theorem aggA_24 : aggA Try.prog 24 = some false := by kernel_rfl
theorem sizeA_24 : sizeA Try.prog 24 = some 1 := by kernel_rfl
theorem call_16 : callable Try.prog 16 = true := by kernel_rfl
theorem plan_75 : planA Try.prog 75 = some [(0, 1), (1, 1), (2, 1), (3, 1), (4, 1)] := by kernel_rfl
theorem zeroA_75 : zeroA Try.prog 75 = some (.agg #[(.string ⟨#[]⟩), (.int .i64 0), (.int .i64 0), (.slice none 0 0), .nilFunc]) := by kernel_rfl
theorem call_54 : callable Try.prog 54 = true := by kernel_rfl
theorem call_55 : callable Try.prog 55 = true := by kernel_rfl
theorem call_86 : callable Try.prog 86 = true := by kernel_rfl
theorem call_88 : callable Try.prog 88 = true := by kernel_rfl
theorem call_56 : callable Try.prog 56 = true := by kernel_rfl
theorem call_87 : callable Try.prog 87 = true := by kernel_rfl
theorem call_43 : callable Try.prog 43 = true := by kernel_rfl
theorem call_57 : callable Try.prog 57 = true := by kernel_rfl
theorem call_59 : callable Try.prog 59 = true := by kernel_rfl
theorem arrA_125 : arrA Try.prog 125 = some (11, 9, 1) := by kernel_rfl
theorem zeroA_125 : zeroA Try.prog 125 = some (.agg #[(.string ⟨#[]⟩), (.string ⟨#[]⟩), (.string ⟨#[]⟩), (.string ⟨#[]⟩), (.string ⟨#[]⟩), (.string ⟨#[]⟩), (.string ⟨#[]⟩), (.string ⟨#[]⟩), (.string ⟨#[]⟩), (.string ⟨#[]⟩), (.string ⟨#[]⟩)]) := by kernel_rfl
theorem aggA_9 : aggA Try.prog 9 = some false := by kernel_rfl
theorem zeroA_5 : zeroA Try.prog 5 = some (.int .u8 0) := by kernel_rfl
theorem und_9 : Try.prog.underlying 9 = some .string := by kernel_rfl
theorem elemA_110 : elemA Try.prog 110 = some 9 := by kernel_rfl
theorem sizeA_9 : sizeA Try.prog 9 = some 1 := by kernel_rfl
theorem bytesA_9 : bytesA Try.prog 9 = some 16 := by kernel_rfl
theorem zeroA_9 : zeroA Try.prog 9 = some (.string ⟨#[]⟩) := by kernel_rfl
theorem call_101 : callable Try.prog 101 = true := by kernel_rfl
theorem call_102 : callable Try.prog 102 = true := by kernel_rfl
theorem call_61 : callable Try.prog 61 = true := by kernel_rfl
theorem call_62 : callable Try.prog 62 = true := by kernel_rfl
theorem call_10 : callable Try.prog 10 = true := by kernel_rfl
theorem call_11 : callable Try.prog 11 = true := by kernel_rfl
theorem call_12 : callable Try.prog 12 = true := by kernel_rfl
theorem call_13 : callable Try.prog 13 = true := by kernel_rfl
theorem call_14 : callable Try.prog 14 = true := by kernel_rfl
theorem call_15 : callable Try.prog 15 = true := by kernel_rfl
theorem und_4 : Try.prog.underlying 4 = some .bool := by kernel_rfl
theorem call_17 : callable Try.prog 17 = true := by kernel_rfl
theorem call_18 : callable Try.prog 18 = true := by kernel_rfl
theorem call_19 : callable Try.prog 19 = true := by kernel_rfl
theorem cellsOf_5 : Try.prog.cellsOf 5 = 1 := by kernel_rfl
end Go.Proofs.Ytjjlkncefgfljaa
