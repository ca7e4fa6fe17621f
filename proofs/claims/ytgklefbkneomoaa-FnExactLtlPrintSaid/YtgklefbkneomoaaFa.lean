/- Facts about the program's types and functions, each by computation. -/
import Derived.Test.YtgklefbkneomoaaF4
import Derived.Test.YtgklefbkneomoaaProg
namespace Go.Proofs.Ytgklefbkneomoaa
open Go Go.RowKit E
set_option linter.unusedVariables false
theorem lenT_22 : lenT Try.prog 22 = some false := by kernel_rfl
theorem zeroA_43 : zeroA Try.prog 43 = some (.agg #[(.int .i64 0), (.int .i64 0), (.int .i64 0)]) := by kernel_rfl
theorem fieldA_45_0 : fieldA Try.prog 45 0 = some 0 := by kernel_rfl
theorem aggA_3 : aggA Try.prog 3 = some false := by kernel_rfl
theorem fieldA_43_0 : fieldA Try.prog 43 0 = some 0 := by kernel_rfl
theorem sizeA_3 : sizeA Try.prog 3 = some 1 := by kernel_rfl
theorem fieldA_45_1 : fieldA Try.prog 45 1 = some 1 := by kernel_rfl
theorem fieldA_43_1 : fieldA Try.prog 43 1 = some 1 := by kernel_rfl
theorem fieldA_45_2 : fieldA Try.prog 45 2 = some 2 := by kernel_rfl
theorem fieldA_43_2 : fieldA Try.prog 43 2 = some 2 := by kernel_rfl
theorem aggA_43 : aggA Try.prog 43 = some true := by kernel_rfl
theorem sizeA_43 : sizeA Try.prog 43 = some 3 := by kernel_rfl
theorem elemA_26 : elemA Try.prog 26 = some 43 := by kernel_rfl
theorem bytesA_43 : bytesA Try.prog 43 = some 24 := by kernel_rfl
theorem elemA_22 : elemA Try.prog 22 = some 45 := by kernel_rfl
theorem sizeA_45 : sizeA Try.prog 45 = some 3 := by kernel_rfl
theorem aggA_45 : aggA Try.prog 45 = some true := by kernel_rfl
theorem call_28 : callable Try.prog 28 = true := by kernel_rfl
theorem call_45 : callable Try.prog 45 = true := by kernel_rfl
theorem elemA_24 : elemA Try.prog 24 = some 3 := by kernel_rfl
theorem zeroA_3 : zeroA Try.prog 3 = some (.int .i64 0) := by kernel_rfl
theorem lenT_26 : lenT Try.prog 26 = some false := by kernel_rfl
theorem bytesA_3 : bytesA Try.prog 3 = some 8 := by kernel_rfl
theorem mixed : Try.prog.follows .mixedOrders = true := by kernel_rfl
theorem call_47 : callable Try.prog 47 = true := by kernel_rfl
theorem lenT_24 : lenT Try.prog 24 = some false := by kernel_rfl
theorem call_35 : callable Try.prog 35 = true := by kernel_rfl
theorem call_46 : callable Try.prog 46 = true := by kernel_rfl
theorem call_26 : callable Try.prog 26 = true := by kernel_rfl
theorem call_27 : callable Try.prog 27 = true := by kernel_rfl
theorem call_64 : callable Try.prog 64 = true := by kernel_rfl
theorem call_63 : callable Try.prog 63 = true := by kernel_rfl
theorem call_65 : callable Try.prog 65 = true := by kernel_rfl
theorem call_53 : callable Try.prog 53 = true := by kernel_rfl
theorem call_34 : callable Try.prog 34 = true := by kernel_rfl
theorem call_48 : callable Try.prog 48 = true := by kernel_rfl
theorem call_29 : callable Try.prog 29 = true := by kernel_rfl
theorem call_30 : callable Try.prog 30 = true := by kernel_rfl
theorem call_31 : callable Try.prog 31 = true := by kernel_rfl
theorem call_8 : callable Try.prog 8 = true := by kernel_rfl
theorem call_10 : callable Try.prog 10 = true := by kernel_rfl
theorem call_9 : callable Try.prog 9 = true := by kernel_rfl
theorem call_11 : callable Try.prog 11 = true := by kernel_rfl
theorem call_12 : callable Try.prog 12 = true := by kernel_rfl
theorem call_13 : callable Try.prog 13 = true := by kernel_rfl
theorem call_14 : callable Try.prog 14 = true := by kernel_rfl
theorem call_15 : callable Try.prog 15 = true := by kernel_rfl
theorem call_16 : callable Try.prog 16 = true := by kernel_rfl
theorem und_3 : Try.prog.underlying 3 = some (.int .i64) := by kernel_rfl
theorem und_5 : Try.prog.underlying 5 = some (.int .u8) := by kernel_rfl
theorem elemA_70 : elemA Try.prog 70 = some 5 := by kernel_rfl
theorem sizeA_5 : sizeA Try.prog 5 = some 1 := by kernel_rfl
theorem zeroA_5 : zeroA Try.prog 5 = some (.int .u8 0) := by kernel_rfl
theorem und_9 : Try.prog.underlying 9 = some .string := by kernel_rfl
theorem call_49 : callable Try.prog 49 = true := by kernel_rfl
theorem call_50 : callable Try.prog 50 = true := by kernel_rfl
theorem call_32 : callable Try.prog 32 = true := by kernel_rfl
theorem arrA_77 : arrA Try.prog 77 = some (11, 9, 1) := by kernel_rfl
theorem zeroA_77 : zeroA Try.prog 77 = some (.agg #[(.string ⟨#[]⟩), (.string ⟨#[]⟩), (.string ⟨#[]⟩), (.string ⟨#[]⟩), (.string ⟨#[]⟩), (.string ⟨#[]⟩), (.string ⟨#[]⟩), (.string ⟨#[]⟩), (.string ⟨#[]⟩), (.string ⟨#[]⟩), (.string ⟨#[]⟩)]) := by kernel_rfl
theorem aggA_9 : aggA Try.prog 9 = some false := by kernel_rfl
theorem elemA_67 : elemA Try.prog 67 = some 9 := by kernel_rfl
theorem sizeA_9 : sizeA Try.prog 9 = some 1 := by kernel_rfl
theorem bytesA_9 : bytesA Try.prog 9 = some 16 := by kernel_rfl
theorem zeroA_9 : zeroA Try.prog 9 = some (.string ⟨#[]⟩) := by kernel_rfl
theorem call_51 : callable Try.prog 51 = true := by kernel_rfl
theorem call_52 : callable Try.prog 52 = true := by kernel_rfl
theorem call_33 : callable Try.prog 33 = true := by kernel_rfl
theorem call_17 : callable Try.prog 17 = true := by kernel_rfl
theorem call_18 : callable Try.prog 18 = true := by kernel_rfl
theorem call_40 : callable Try.prog 40 = true := by kernel_rfl
theorem lenT_9 : lenT Try.prog 9 = some true := by kernel_rfl
theorem call_54 : callable Try.prog 54 = true := by kernel_rfl
theorem plan_43 : planA Try.prog 43 = some [(0, 1), (1, 1), (2, 1)] := by kernel_rfl
theorem call_55 : callable Try.prog 55 = true := by kernel_rfl
theorem aggA_5 : aggA Try.prog 5 = some false := by kernel_rfl
theorem plan_56 : planA Try.prog 56 = some [(0, 1), (1, 1), (2, 1), (3, 1), (4, 1)] := by kernel_rfl
theorem zeroA_56 : zeroA Try.prog 56 = some (.agg #[(.string ⟨#[]⟩), (.int .i64 0), (.int .i64 0), (.slice none 0 0), .nilFunc]) := by kernel_rfl
theorem fieldA_56_2 : fieldA Try.prog 56 2 = some 2 := by kernel_rfl
theorem fieldA_56_1 : fieldA Try.prog 56 1 = some 1 := by kernel_rfl
theorem fieldA_56_3 : fieldA Try.prog 56 3 = some 3 := by kernel_rfl
theorem aggA_26 : aggA Try.prog 26 = some false := by kernel_rfl
theorem call_56 : callable Try.prog 56 = true := by kernel_rfl
theorem fieldA_56_0 : fieldA Try.prog 56 0 = some 0 := by kernel_rfl
theorem call_68 : callable Try.prog 68 = true := by kernel_rfl
theorem sizeA_26 : sizeA Try.prog 26 = some 1 := by kernel_rfl
theorem call_66 : callable Try.prog 66 = true := by kernel_rfl
theorem call_38 : callable Try.prog 38 = true := by kernel_rfl
theorem call_72 : callable Try.prog 72 = true := by kernel_rfl
theorem call_71 : callable Try.prog 71 = true := by kernel_rfl
theorem call_60 : callable Try.prog 60 = true := by kernel_rfl
theorem call_58 : callable Try.prog 58 = true := by kernel_rfl
theorem call_57 : callable Try.prog 57 = true := by kernel_rfl
theorem call_67 : callable Try.prog 67 = true := by kernel_rfl
theorem call_69 : callable Try.prog 69 = true := by kernel_rfl
theorem call_61 : callable Try.prog 61 = true := by kernel_rfl
theorem call_42 : callable Try.prog 42 = true := by kernel_rfl
theorem call_70 : callable Try.prog 70 = true := by kernel_rfl
theorem call_41 : callable Try.prog 41 = true := by kernel_rfl
theorem call_22 : callable Try.prog 22 = true := by kernel_rfl
theorem call_23 : callable Try.prog 23 = true := by kernel_rfl
theorem call_21 : callable Try.prog 21 = true := by kernel_rfl
theorem call_43 : callable Try.prog 43 = true := by kernel_rfl
theorem call_37 : callable Try.prog 37 = true := by kernel_rfl
theorem und_4 : Try.prog.underlying 4 = some .bool := by kernel_rfl
theorem call_44 : callable Try.prog 44 = true := by kernel_rfl
theorem call_62 : callable Try.prog 62 = true := by kernel_rfl
theorem call_59 : callable Try.prog 59 = true := by kernel_rfl
theorem call_39 : callable Try.prog 39 = true := by kernel_rfl
theorem call_24 : callable Try.prog 24 = true := by kernel_rfl
theorem call_25 : callable Try.prog 25 = true := by kernel_rfl
theorem call_36 : callable Try.prog 36 = true := by kernel_rfl
theorem call_19 : callable Try.prog 19 = true := by kernel_rfl
theorem call_20 : callable Try.prog 20 = true := by kernel_rfl
theorem cellsOf_3 : Try.prog.cellsOf 3 = 1 := by kernel_rfl
theorem cellsOf_45 : Try.prog.cellsOf 45 = 3 := by kernel_rfl
end Go.Proofs.Ytgklefbkneomoaa
