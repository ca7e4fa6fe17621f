/- Facts about the program's types and functions, each by computation. -/
import Derived.Test.YthdoebgikbfndaaGreatF6
import Derived.Test.YthdoebgikbfndaaGreatProg
namespace Go.Proofs.YthdoebgikbfndaaGreat
open Go Go.RowKit E
set_option linter.unusedVariables false
theorem lenT_22 : lenT Tryz.prog 22 = some false := by kernel_rfl
theorem zeroA_46 : zeroA Tryz.prog 46 = some (.agg #[(.int .i64 0), (.int .i64 0), (.int .i64 0)]) := by kernel_rfl
theorem fieldA_48_0 : fieldA Tryz.prog 48 0 = some 0 := by kernel_rfl
theorem aggA_3 : aggA Tryz.prog 3 = some false := by kernel_rfl
theorem fieldA_46_0 : fieldA Tryz.prog 46 0 = some 0 := by kernel_rfl
theorem sizeA_3 : sizeA Tryz.prog 3 = some 1 := by kernel_rfl
theorem fieldA_48_1 : fieldA Tryz.prog 48 1 = some 1 := by kernel_rfl
theorem fieldA_46_1 : fieldA Tryz.prog 46 1 = some 1 := by kernel_rfl
theorem fieldA_48_2 : fieldA Tryz.prog 48 2 = some 2 := by kernel_rfl
theorem fieldA_46_2 : fieldA Tryz.prog 46 2 = some 2 := by kernel_rfl
theorem aggA_46 : aggA Tryz.prog 46 = some true := by kernel_rfl
theorem sizeA_46 : sizeA Tryz.prog 46 = some 3 := by kernel_rfl
theorem elemA_29 : elemA Tryz.prog 29 = some 46 := by kernel_rfl
theorem bytesA_46 : bytesA Tryz.prog 46 = some 24 := by kernel_rfl
theorem elemA_22 : elemA Tryz.prog 22 = some 48 := by kernel_rfl
theorem sizeA_48 : sizeA Tryz.prog 48 = some 3 := by kernel_rfl
theorem aggA_48 : aggA Tryz.prog 48 = some true := by kernel_rfl
theorem call_16 : callable Tryz.prog 16 = true := by kernel_rfl
theorem call_26 : callable Tryz.prog 26 = true := by kernel_rfl
theorem elemA_42 : elemA Tryz.prog 42 = some 3 := by kernel_rfl
theorem zeroA_3 : zeroA Tryz.prog 3 = some (.int .i64 0) := by kernel_rfl
theorem lenT_29 : lenT Tryz.prog 29 = some false := by kernel_rfl
theorem bytesA_3 : bytesA Tryz.prog 3 = some 8 := by kernel_rfl
theorem mixed : Tryz.prog.follows .mixedOrders = true := by kernel_rfl
theorem call_61 : callable Tryz.prog 61 = true := by kernel_rfl
theorem lenT_42 : lenT Tryz.prog 42 = some false := by kernel_rfl
theorem call_59 : callable Tryz.prog 59 = true := by kernel_rfl
theorem call_60 : callable Tryz.prog 60 = true := by kernel_rfl
theorem call_25 : callable Tryz.prog 25 = true := by kernel_rfl
theorem call_58 : callable Tryz.prog 58 = true := by kernel_rfl
theorem call_34 : callable Tryz.prog 34 = true := by kernel_rfl
theorem elemA_56 : elemA Tryz.prog 56 = some 4 := by kernel_rfl
theorem sizeA_4 : sizeA Tryz.prog 4 = some 1 := by kernel_rfl
theorem zeroA_4 : zeroA Tryz.prog 4 = some (.bool false) := by kernel_rfl
theorem call_33 : callable Tryz.prog 33 = true := by kernel_rfl
theorem bytesA_4 : bytesA Tryz.prog 4 = some 1 := by kernel_rfl
theorem aggA_4 : aggA Tryz.prog 4 = some false := by kernel_rfl
theorem zeroA_38 : zeroA Tryz.prog 38 = some (.agg #[(.int .i64 0), (.int .i64 0), (.int .i64 0), (.int .i64 0), (.slice none 0 0)]) := by kernel_rfl
theorem fieldA_38_1 : fieldA Tryz.prog 38 1 = some 1 := by kernel_rfl
theorem fieldA_38_0 : fieldA Tryz.prog 38 0 = some 0 := by kernel_rfl
theorem elemA_36 : elemA Tryz.prog 36 = some 61 := by kernel_rfl
theorem sizeA_61 : sizeA Tryz.prog 61 = some 4 := by kernel_rfl
theorem zeroA_61 : zeroA Tryz.prog 61 = some (.agg #[(.int .i64 0), (.int .i64 0), (.int .i64 0), (.int .i64 0)]) := by kernel_rfl
theorem fieldA_38_4 : fieldA Tryz.prog 38 4 = some 4 := by kernel_rfl
theorem sizeA_36 : sizeA Tryz.prog 36 = some 1 := by kernel_rfl
theorem aggA_38 : aggA Tryz.prog 38 = some true := by kernel_rfl
theorem sizeA_38 : sizeA Tryz.prog 38 = some 5 := by kernel_rfl
theorem plan_61 : planA Tryz.prog 61 = some [(0, 1), (1, 1), (2, 1), (3, 1)] := by kernel_rfl
theorem bytesA_61 : bytesA Tryz.prog 61 = some 32 := by kernel_rfl
theorem aggA_36 : aggA Tryz.prog 36 = some false := by kernel_rfl
theorem lenT_36 : lenT Tryz.prog 36 = some false := by kernel_rfl
theorem aggA_61 : aggA Tryz.prog 61 = some true := by kernel_rfl
theorem fieldA_61_0 : fieldA Tryz.prog 61 0 = some 0 := by kernel_rfl
theorem fieldA_61_1 : fieldA Tryz.prog 61 1 = some 1 := by kernel_rfl
theorem fieldA_61_2 : fieldA Tryz.prog 61 2 = some 2 := by kernel_rfl
theorem fieldA_61_3 : fieldA Tryz.prog 61 3 = some 3 := by kernel_rfl
theorem call_24 : callable Tryz.prog 24 = true := by kernel_rfl
theorem call_27 : callable Tryz.prog 27 = true := by kernel_rfl
theorem plan_38 : planA Tryz.prog 38 = some [(0, 1), (1, 1), (2, 1), (3, 1), (4, 1)] := by kernel_rfl
theorem call_30 : callable Tryz.prog 30 = true := by kernel_rfl
theorem call_28 : callable Tryz.prog 28 = true := by kernel_rfl
theorem call_29 : callable Tryz.prog 29 = true := by kernel_rfl
theorem call_81 : callable Tryz.prog 81 = true := by kernel_rfl
theorem fieldA_68_0 : fieldA Tryz.prog 68 0 = some 0 := by kernel_rfl
theorem fieldA_68_1 : fieldA Tryz.prog 68 1 = some 1 := by kernel_rfl
theorem fieldA_68_2 : fieldA Tryz.prog 68 2 = some 2 := by kernel_rfl
theorem plan_68 : planA Tryz.prog 68 = some [(0, 1), (1, 1), (2, 1), (3, 1)] := by kernel_rfl
theorem zeroA_68 : zeroA Tryz.prog 68 = some (.agg #[(.int .i64 0), (.int .i64 0), (.int .i64 0), (.bool false)]) := by kernel_rfl
theorem call_65 : callable Tryz.prog 65 = true := by kernel_rfl
theorem fieldA_38_2 : fieldA Tryz.prog 38 2 = some 2 := by kernel_rfl
theorem call_62 : callable Tryz.prog 62 = true := by kernel_rfl
theorem fieldA_38_3 : fieldA Tryz.prog 38 3 = some 3 := by kernel_rfl
theorem call_63 : callable Tryz.prog 63 = true := by kernel_rfl
theorem call_64 : callable Tryz.prog 64 = true := by kernel_rfl
theorem fieldA_26_0 : fieldA Tryz.prog 26 0 = some 0 := by kernel_rfl
theorem fieldA_26_1 : fieldA Tryz.prog 26 1 = some 1 := by kernel_rfl
theorem fieldA_26_2 : fieldA Tryz.prog 26 2 = some 2 := by kernel_rfl
theorem fieldA_26_3 : fieldA Tryz.prog 26 3 = some 3 := by kernel_rfl
theorem aggA_24 : aggA Tryz.prog 24 = some false := by kernel_rfl
theorem lenT_24 : lenT Tryz.prog 24 = some false := by kernel_rfl
theorem elemA_24 : elemA Tryz.prog 24 = some 68 := by kernel_rfl
theorem sizeA_68 : sizeA Tryz.prog 68 = some 4 := by kernel_rfl
theorem aggA_68 : aggA Tryz.prog 68 = some true := by kernel_rfl
theorem zeroA_26 : zeroA Tryz.prog 26 = some (.agg #[(.int .i64 0), (.int .i64 0), (.int .i64 0), (.slice none 0 0)]) := by kernel_rfl
theorem plan_26 : planA Tryz.prog 26 = some [(0, 1), (1, 1), (2, 1), (3, 1)] := by kernel_rfl
theorem sizeA_26 : sizeA Tryz.prog 26 = some 4 := by kernel_rfl
theorem aggA_26 : aggA Tryz.prog 26 = some true := by kernel_rfl
theorem call_36 : callable Tryz.prog 36 = true := by kernel_rfl
theorem bytesA_68 : bytesA Tryz.prog 68 = some 32 := by kernel_rfl
theorem sizeA_24 : sizeA Tryz.prog 24 = some 1 := by kernel_rfl
theorem call_32 : callable Tryz.prog 32 = true := by kernel_rfl
theorem fieldA_68_3 : fieldA Tryz.prog 68 3 = some 3 := by kernel_rfl
theorem call_31 : callable Tryz.prog 31 = true := by kernel_rfl
theorem call_35 : callable Tryz.prog 35 = true := by kernel_rfl
theorem call_38 : callable Tryz.prog 38 = true := by kernel_rfl
theorem call_37 : callable Tryz.prog 37 = true := by kernel_rfl
theorem call_13 : callable Tryz.prog 13 = true := by kernel_rfl
theorem call_14 : callable Tryz.prog 14 = true := by kernel_rfl
theorem call_15 : callable Tryz.prog 15 = true := by kernel_rfl
theorem call_68 : callable Tryz.prog 68 = true := by kernel_rfl
theorem call_82 : callable Tryz.prog 82 = true := by kernel_rfl
theorem call_98 : callable Tryz.prog 98 = true := by kernel_rfl
theorem call_83 : callable Tryz.prog 83 = true := by kernel_rfl
theorem call_67 : callable Tryz.prog 67 = true := by kernel_rfl
theorem call_66 : callable Tryz.prog 66 = true := by kernel_rfl
theorem und_3 : Tryz.prog.underlying 3 = some (.int .i64) := by kernel_rfl
theorem und_88 : Tryz.prog.underlying 88 = some (.int .u64) := by kernel_rfl
theorem call_71 : callable Tryz.prog 71 = true := by kernel_rfl
theorem call_84 : callable Tryz.prog 84 = true := by kernel_rfl
theorem call_42 : callable Tryz.prog 42 = true := by kernel_rfl
theorem call_69 : callable Tryz.prog 69 = true := by kernel_rfl
theorem call_70 : callable Tryz.prog 70 = true := by kernel_rfl
theorem call_43 : callable Tryz.prog 43 = true := by kernel_rfl
theorem call_95 : callable Tryz.prog 95 = true := by kernel_rfl
theorem call_75 : callable Tryz.prog 75 = true := by kernel_rfl
theorem call_74 : callable Tryz.prog 74 = true := by kernel_rfl
theorem call_39 : callable Tryz.prog 39 = true := by kernel_rfl
theorem call_40 : callable Tryz.prog 40 = true := by kernel_rfl
theorem call_41 : callable Tryz.prog 41 = true := by kernel_rfl
theorem call_48 : callable Tryz.prog 48 = true := by kernel_rfl
theorem call_47 : callable Tryz.prog 47 = true := by kernel_rfl
theorem call_44 : callable Tryz.prog 44 = true := by kernel_rfl
theorem call_45 : callable Tryz.prog 45 = true := by kernel_rfl
theorem call_46 : callable Tryz.prog 46 = true := by kernel_rfl
theorem call_96 : callable Tryz.prog 96 = true := by kernel_rfl
theorem call_77 : callable Tryz.prog 77 = true := by kernel_rfl
theorem call_76 : callable Tryz.prog 76 = true := by kernel_rfl
theorem und_24 : Tryz.prog.underlying 24 = some (.slice 68) := by kernel_rfl
theorem call_78 : callable Tryz.prog 78 = true := by kernel_rfl
theorem call_80 : callable Tryz.prog 80 = true := by kernel_rfl
theorem call_79 : callable Tryz.prog 79 = true := by kernel_rfl
theorem call_54 : callable Tryz.prog 54 = true := by kernel_rfl
theorem call_49 : callable Tryz.prog 49 = true := by kernel_rfl
theorem call_52 : callable Tryz.prog 52 = true := by kernel_rfl
theorem call_53 : callable Tryz.prog 53 = true := by kernel_rfl
theorem call_51 : callable Tryz.prog 51 = true := by kernel_rfl
theorem call_50 : callable Tryz.prog 50 = true := by kernel_rfl
theorem call_56 : callable Tryz.prog 56 = true := by kernel_rfl
theorem call_55 : callable Tryz.prog 55 = true := by kernel_rfl
theorem call_17 : callable Tryz.prog 17 = true := by kernel_rfl
theorem call_18 : callable Tryz.prog 18 = true := by kernel_rfl
theorem call_19 : callable Tryz.prog 19 = true := by kernel_rfl
theorem und_4 : Tryz.prog.underlying 4 = some .bool := by kernel_rfl
theorem call_57 : callable Tryz.prog 57 = true := by kernel_rfl
theorem call_20 : callable Tryz.prog 20 = true := by kernel_rfl
theorem call_21 : callable Tryz.prog 21 = true := by kernel_rfl
theorem call_22 : callable Tryz.prog 22 = true := by kernel_rfl
theorem call_23 : callable Tryz.prog 23 = true := by kernel_rfl
theorem call_4 : callable Tryz.prog 4 = true := by kernel_rfl
theorem call_6 : callable Tryz.prog 6 = true := by kernel_rfl
theorem call_5 : callable Tryz.prog 5 = true := by kernel_rfl
theorem call_7 : callable Tryz.prog 7 = true := by kernel_rfl
theorem call_8 : callable Tryz.prog 8 = true := by kernel_rfl
theorem call_9 : callable Tryz.prog 9 = true := by kernel_rfl
theorem call_10 : callable Tryz.prog 10 = true := by kernel_rfl
theorem call_11 : callable Tryz.prog 11 = true := by kernel_rfl
theorem call_12 : callable Tryz.prog 12 = true := by kernel_rfl
theorem cellsOf_3 : Tryz.prog.cellsOf 3 = 1 := by kernel_rfl
theorem cellsOf_48 : Tryz.prog.cellsOf 48 = 3 := by kernel_rfl
end Go.Proofs.YthdoebgikbfndaaGreat
