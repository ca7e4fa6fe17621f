/- Facts about the program's types and functions, each by computation. -/
import Derived.Test.YtmmgpcnngaekoaaF7
import Derived.Test.YtmmgpcnngaekoaaProg
namespace Go.Proofs.Ytmmgpcnngaekoaa
open Go Go.RowKit E
set_option linter.unusedVariables false
theorem lenT_22 : lenT Try.prog 22 = some false := by kernel_rfl
theorem plan_84 : planA Try.prog 84 = some [(0, 1), (1, 1), (2, 1)] := by kernel_rfl
theorem zeroA_84 : zeroA Try.prog 84 = some (.agg #[(.slice none 0 0), (.int .i64 0), (.int .i64 0)]) := by kernel_rfl
theorem elemA_22 : elemA Try.prog 22 = some 5 := by kernel_rfl
theorem sizeA_5 : sizeA Try.prog 5 = some 1 := by kernel_rfl
theorem aggA_5 : aggA Try.prog 5 = some false := by kernel_rfl
theorem und_5 : Try.prog.underlying 5 = some (.int .u8) := by kernel_rfl
theorem und_3 : Try.prog.underlying 3 = some (.int .i64) := by kernel_rfl
theorem fieldA_84_2 : fieldA Try.prog 84 2 = some 2 := by kernel_rfl
theorem aggA_3 : aggA Try.prog 3 = some false := by kernel_rfl
theorem sizeA_3 : sizeA Try.prog 3 = some 1 := by kernel_rfl
theorem mixed : Try.prog.follows .mixedOrders = true := by kernel_rfl
theorem fieldA_84_1 : fieldA Try.prog 84 1 = some 1 := by kernel_rfl
theorem fieldA_84_0 : fieldA Try.prog 84 0 = some 0 := by kernel_rfl
theorem aggA_22 : aggA Try.prog 22 = some false := by kernel_rfl
theorem call_68 : callable Try.prog 68 = true := by kernel_rfl
theorem call_34 : callable Try.prog 34 = true := by kernel_rfl
theorem plan_31 : planA Try.prog 31 = some [(0, 1), (1, 1), (2, 1)] := by kernel_rfl
theorem zeroA_31 : zeroA Try.prog 31 = some (.agg #[(.int .i64 0), (.int .i64 0), (.int .i64 0)]) := by kernel_rfl
theorem elemA_24 : elemA Try.prog 24 = some 31 := by kernel_rfl
theorem sizeA_31 : sizeA Try.prog 31 = some 3 := by kernel_rfl
theorem bytesA_31 : bytesA Try.prog 31 = some 24 := by kernel_rfl
theorem call_82 : callable Try.prog 82 = true := by kernel_rfl
theorem lenT_24 : lenT Try.prog 24 = some false := by kernel_rfl
theorem call_54 : callable Try.prog 54 = true := by kernel_rfl
theorem fieldA_31_0 : fieldA Try.prog 31 0 = some 0 := by kernel_rfl
theorem fieldA_31_1 : fieldA Try.prog 31 1 = some 1 := by kernel_rfl
theorem fieldA_31_2 : fieldA Try.prog 31 2 = some 2 := by kernel_rfl
theorem elemA_25 : elemA Try.prog 25 = some 3 := by kernel_rfl
theorem zeroA_3 : zeroA Try.prog 3 = some (.int .i64 0) := by kernel_rfl
theorem bytesA_3 : bytesA Try.prog 3 = some 8 := by kernel_rfl
theorem call_31 : callable Try.prog 31 = true := by kernel_rfl
theorem call_32 : callable Try.prog 32 = true := by kernel_rfl
theorem call_33 : callable Try.prog 33 = true := by kernel_rfl
theorem call_35 : callable Try.prog 35 = true := by kernel_rfl
theorem call_36 : callable Try.prog 36 = true := by kernel_rfl
theorem aggA_31 : aggA Try.prog 31 = some true := by kernel_rfl
theorem call_39 : callable Try.prog 39 = true := by kernel_rfl
theorem lenT_25 : lenT Try.prog 25 = some false := by kernel_rfl
theorem call_37 : callable Try.prog 37 = true := by kernel_rfl
theorem call_38 : callable Try.prog 38 = true := by kernel_rfl
theorem call_90 : callable Try.prog 90 = true := by kernel_rfl
theorem call_71 : callable Try.prog 71 = true := by kernel_rfl
theorem call_72 : callable Try.prog 72 = true := by kernel_rfl
theorem call_43 : callable Try.prog 43 = true := by kernel_rfl
theorem call_42 : callable Try.prog 42 = true := by kernel_rfl
theorem und_57 : Try.prog.underlying 57 = some (.int .u64) := by kernel_rfl
theorem call_40 : callable Try.prog 40 = true := by kernel_rfl
theorem call_12 : callable Try.prog 12 = true := by kernel_rfl
theorem elemA_58 : elemA Try.prog 58 = some 4 := by kernel_rfl
theorem sizeA_4 : sizeA Try.prog 4 = some 1 := by kernel_rfl
theorem bytesA_4 : bytesA Try.prog 4 = some 1 := by kernel_rfl
theorem zeroA_4 : zeroA Try.prog 4 = some (.bool false) := by kernel_rfl
theorem aggA_4 : aggA Try.prog 4 = some false := by kernel_rfl
theorem lenT_58 : lenT Try.prog 58 = some false := by kernel_rfl
theorem elemA_59 : elemA Try.prog 59 = some 58 := by kernel_rfl
theorem sizeA_58 : sizeA Try.prog 58 = some 1 := by kernel_rfl
theorem zeroA_58 : zeroA Try.prog 58 = some (.slice none 0 0) := by kernel_rfl
theorem bytesA_58 : bytesA Try.prog 58 = some 24 := by kernel_rfl
theorem aggA_58 : aggA Try.prog 58 = some false := by kernel_rfl
theorem call_69 : callable Try.prog 69 = true := by kernel_rfl
theorem call_70 : callable Try.prog 70 = true := by kernel_rfl
theorem call_9 : callable Try.prog 9 = true := by kernel_rfl
theorem call_41 : callable Try.prog 41 = true := by kernel_rfl
theorem call_7 : callable Try.prog 7 = true := by kernel_rfl
theorem call_8 : callable Try.prog 8 = true := by kernel_rfl
theorem call_10 : callable Try.prog 10 = true := by kernel_rfl
theorem call_11 : callable Try.prog 11 = true := by kernel_rfl
theorem und_4 : Try.prog.underlying 4 = some .bool := by kernel_rfl
theorem lenT_64 : lenT Try.prog 64 = some false := by kernel_rfl
theorem fieldA_66_0 : fieldA Try.prog 66 0 = some 0 := by kernel_rfl
theorem aggA_64 : aggA Try.prog 64 = some false := by kernel_rfl
theorem call_73 : callable Try.prog 73 = true := by kernel_rfl
theorem fieldA_66_1 : fieldA Try.prog 66 1 = some 1 := by kernel_rfl
theorem lenT_32 : lenT Try.prog 32 = some false := by kernel_rfl
theorem elemA_32 : elemA Try.prog 32 = some 66 := by kernel_rfl
theorem sizeA_66 : sizeA Try.prog 66 = some 2 := by kernel_rfl
theorem aggA_66 : aggA Try.prog 66 = some true := by kernel_rfl
theorem call_44 : callable Try.prog 44 = true := by kernel_rfl
theorem fieldA_111_0 : fieldA Try.prog 111 0 = some 0 := by kernel_rfl
theorem fieldA_111_1 : fieldA Try.prog 111 1 = some 1 := by kernel_rfl
theorem fieldA_111_2 : fieldA Try.prog 111 2 = some 2 := by kernel_rfl
theorem elemA_64 : elemA Try.prog 64 = some 111 := by kernel_rfl
theorem sizeA_111 : sizeA Try.prog 111 = some 3 := by kernel_rfl
theorem aggA_111 : aggA Try.prog 111 = some true := by kernel_rfl
theorem call_91 : callable Try.prog 91 = true := by kernel_rfl
theorem zeroA_69 : zeroA Try.prog 69 = some (.agg #[(.slice none 0 0), (.slice none 0 0)]) := by kernel_rfl
theorem call_74 : callable Try.prog 74 = true := by kernel_rfl
theorem fieldA_69_0 : fieldA Try.prog 69 0 = some 0 := by kernel_rfl
theorem sizeA_24 : sizeA Try.prog 24 = some 1 := by kernel_rfl
theorem fieldA_69_1 : fieldA Try.prog 69 1 = some 1 := by kernel_rfl
theorem aggA_69 : aggA Try.prog 69 = some true := by kernel_rfl
theorem sizeA_69 : sizeA Try.prog 69 = some 2 := by kernel_rfl
theorem elemA_35 : elemA Try.prog 35 = some 69 := by kernel_rfl
theorem bytesA_69 : bytesA Try.prog 69 = some 48 := by kernel_rfl
theorem call_47 : callable Try.prog 47 = true := by kernel_rfl
theorem lenT_35 : lenT Try.prog 35 = some false := by kernel_rfl
theorem aggA_24 : aggA Try.prog 24 = some false := by kernel_rfl
theorem zeroA_5 : zeroA Try.prog 5 = some (.int .u8 0) := by kernel_rfl
theorem und_9 : Try.prog.underlying 9 = some .string := by kernel_rfl
theorem call_83 : callable Try.prog 83 = true := by kernel_rfl
theorem call_55 : callable Try.prog 55 = true := by kernel_rfl
theorem call_45 : callable Try.prog 45 = true := by kernel_rfl
theorem call_46 : callable Try.prog 46 = true := by kernel_rfl
theorem elemA_71 : elemA Try.prog 71 = some 9 := by kernel_rfl
theorem sizeA_9 : sizeA Try.prog 9 = some 1 := by kernel_rfl
theorem bytesA_9 : bytesA Try.prog 9 = some 16 := by kernel_rfl
theorem zeroA_9 : zeroA Try.prog 9 = some (.string ⟨#[]⟩) := by kernel_rfl
theorem aggA_9 : aggA Try.prog 9 = some false := by kernel_rfl
theorem call_51 : callable Try.prog 51 = true := by kernel_rfl
theorem lenT_71 : lenT Try.prog 71 = some false := by kernel_rfl
theorem call_48 : callable Try.prog 48 = true := by kernel_rfl
theorem call_94 : callable Try.prog 94 = true := by kernel_rfl
theorem call_78 : callable Try.prog 78 = true := by kernel_rfl
theorem call_50 : callable Try.prog 50 = true := by kernel_rfl
theorem call_13 : callable Try.prog 13 = true := by kernel_rfl
theorem call_15 : callable Try.prog 15 = true := by kernel_rfl
theorem call_14 : callable Try.prog 14 = true := by kernel_rfl
theorem lenT_9 : lenT Try.prog 9 = some true := by kernel_rfl
theorem plan_104 : planA Try.prog 104 = some [(0, 1), (1, 1), (2, 1), (3, 1), (4, 1)] := by kernel_rfl
theorem zeroA_104 : zeroA Try.prog 104 = some (.agg #[(.string ⟨#[]⟩), (.int .i64 0), (.int .i64 0), (.slice none 0 0), .nilFunc]) := by kernel_rfl
theorem fieldA_104_2 : fieldA Try.prog 104 2 = some 2 := by kernel_rfl
theorem fieldA_104_1 : fieldA Try.prog 104 1 = some 1 := by kernel_rfl
theorem fieldA_104_3 : fieldA Try.prog 104 3 = some 3 := by kernel_rfl
theorem call_79 : callable Try.prog 79 = true := by kernel_rfl
theorem fieldA_104_0 : fieldA Try.prog 104 0 = some 0 := by kernel_rfl
theorem call_101 : callable Try.prog 101 = true := by kernel_rfl
theorem call_95 : callable Try.prog 95 = true := by kernel_rfl
theorem call_96 : callable Try.prog 96 = true := by kernel_rfl
theorem call_104 : callable Try.prog 104 = true := by kernel_rfl
theorem call_81 : callable Try.prog 81 = true := by kernel_rfl
theorem call_80 : callable Try.prog 80 = true := by kernel_rfl
theorem call_97 : callable Try.prog 97 = true := by kernel_rfl
theorem call_105 : callable Try.prog 105 = true := by kernel_rfl
theorem call_53 : callable Try.prog 53 = true := by kernel_rfl
theorem call_102 : callable Try.prog 102 = true := by kernel_rfl
theorem call_103 : callable Try.prog 103 = true := by kernel_rfl
theorem call_52 : callable Try.prog 52 = true := by kernel_rfl
theorem eqG_31 : Try.prog.eqGuardType Try.prog.depth 31 = false := by kernel_rfl
theorem eqT_31 : ∀ (a b c a' b' c' : Int) (w : World), (Op.equalIn 10000 31 (.agg #[.int .i64 a, .int .i64 b, .int .i64 c]) (.agg #[.int .i64 a', .int .i64 b', .int .i64 c'])).run Try.prog w = .ok (decide (a = a' ∧ b = b' ∧ c = c')) w := by
  intro a b c a' b' c' w
  have hS : Try.prog.underlying 31 = some (.struct (Try.prog.fieldsOf 31)) := by kernel_rfl
  have hp : Try.prog.stoodInHeld 31 = false := by kernel_rfl
  rw [show (10000 : Nat) = 9999 + 1 from rfl, run_equalIn_agg w 9999 31 _ _ hS hp]
  simp only [Program.fieldsOf, Try.underlying31]
  go_simp
  by_cases h1 : a = a' <;> by_cases h2 : b = b' <;> by_cases h3 : c = c' <;> simp [h1, h2, h3]
theorem call_56 : callable Try.prog 56 = true := by kernel_rfl
theorem call_84 : callable Try.prog 84 = true := by kernel_rfl
theorem call_57 : callable Try.prog 57 = true := by kernel_rfl
theorem call_85 : callable Try.prog 85 = true := by kernel_rfl
theorem call_58 : callable Try.prog 58 = true := by kernel_rfl
theorem call_18 : callable Try.prog 18 = true := by kernel_rfl
theorem call_19 : callable Try.prog 19 = true := by kernel_rfl
theorem call_20 : callable Try.prog 20 = true := by kernel_rfl
theorem call_21 : callable Try.prog 21 = true := by kernel_rfl
theorem call_22 : callable Try.prog 22 = true := by kernel_rfl
theorem call_23 : callable Try.prog 23 = true := by kernel_rfl
theorem call_88 : callable Try.prog 88 = true := by kernel_rfl
theorem call_66 : callable Try.prog 66 = true := by kernel_rfl
theorem call_59 : callable Try.prog 59 = true := by kernel_rfl
theorem call_61 : callable Try.prog 61 = true := by kernel_rfl
theorem arrA_116 : arrA Try.prog 116 = some (11, 9, 1) := by kernel_rfl
theorem zeroA_116 : zeroA Try.prog 116 = some (.agg #[(.string ⟨#[]⟩), (.string ⟨#[]⟩), (.string ⟨#[]⟩), (.string ⟨#[]⟩), (.string ⟨#[]⟩), (.string ⟨#[]⟩), (.string ⟨#[]⟩), (.string ⟨#[]⟩), (.string ⟨#[]⟩), (.string ⟨#[]⟩), (.string ⟨#[]⟩)]) := by kernel_rfl
theorem call_86 : callable Try.prog 86 = true := by kernel_rfl
theorem call_27 : callable Try.prog 27 = true := by kernel_rfl
theorem call_60 : callable Try.prog 60 = true := by kernel_rfl
theorem call_62 : callable Try.prog 62 = true := by kernel_rfl
theorem call_63 : callable Try.prog 63 = true := by kernel_rfl
theorem call_87 : callable Try.prog 87 = true := by kernel_rfl
theorem call_98 : callable Try.prog 98 = true := by kernel_rfl
theorem call_64 : callable Try.prog 64 = true := by kernel_rfl
theorem call_106 : callable Try.prog 106 = true := by kernel_rfl
theorem call_65 : callable Try.prog 65 = true := by kernel_rfl
theorem call_89 : callable Try.prog 89 = true := by kernel_rfl
theorem call_67 : callable Try.prog 67 = true := by kernel_rfl
theorem call_24 : callable Try.prog 24 = true := by kernel_rfl
theorem call_25 : callable Try.prog 25 = true := by kernel_rfl
theorem call_26 : callable Try.prog 26 = true := by kernel_rfl
theorem call_28 : callable Try.prog 28 = true := by kernel_rfl
theorem call_29 : callable Try.prog 29 = true := by kernel_rfl
theorem call_30 : callable Try.prog 30 = true := by kernel_rfl
theorem cellsOf_5 : Try.prog.cellsOf 5 = 1 := by kernel_rfl
end Go.Proofs.Ytmmgpcnngaekoaa
