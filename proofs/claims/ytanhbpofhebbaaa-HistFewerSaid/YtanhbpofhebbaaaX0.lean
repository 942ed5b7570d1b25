/-
  Facts on the types and functions of this program, by reckoning.
-/
import Derived.Test.YtanhbpofhebbaaaRows
import Derived.Test.YtanhbpofhebbaaaS6
namespace Go.Proofs.Ytanhbpofhebbaaa
open Go.RowKit
set_option linter.unusedSimpArgs false
set_option linter.unusedVariables false
theorem ti_2 : tyI Try.prog 2 = some (false, 1, 8, [.int .i64 0]) := by kernel_rfl
theorem ti_3 : tyI Try.prog 3 = some (false, 1, 8, [.int .i64 0]) := by kernel_rfl
theorem ti_4 : tyI Try.prog 4 = some (false, 1, 1, [.bool false]) := by kernel_rfl
theorem ti_5 : tyI Try.prog 5 = some (false, 1, 1, [.int .u8 0]) := by kernel_rfl
theorem ti_7 : tyI Try.prog 7 = some (true, 4, 24, [.int .i64 0, .int .i64 0, .bool false, .int .u8 0]) := by kernel_rfl
theorem fl_7_0 : flI Try.prog 7 0 = some 0 := by kernel_rfl
theorem fl_7_1 : flI Try.prog 7 1 = some 1 := by kernel_rfl
theorem fl_7_2 : flI Try.prog 7 2 = some 2 := by kernel_rfl
theorem fl_7_3 : flI Try.prog 7 3 = some 3 := by kernel_rfl
theorem ti_9 : tyI Try.prog 9 = some (false, 1, 16, [.string ⟨#[]⟩]) := by kernel_rfl
theorem ti_12 : tyI Try.prog 12 = some (false, 1, 8, [.int .u64 0]) := by kernel_rfl
theorem ti_13 : tyI Try.prog 13 = some (true, 2, 24, [.string ⟨#[]⟩, .int .u64 0]) := by kernel_rfl
theorem fl_13_0 : flI Try.prog 13 0 = some 0 := by kernel_rfl
theorem fl_13_1 : flI Try.prog 13 1 = some 1 := by kernel_rfl
theorem ti_15 : tyI Try.prog 15 = some (false, 1, 8, [.pointer none]) := by kernel_rfl
theorem ti_16 : tyI Try.prog 16 = some (false, 1, 8, [.pointer none]) := by kernel_rfl
theorem ti_17 : tyI Try.prog 17 = some (false, 1, 8, [.pointer none]) := by kernel_rfl
theorem ti_18 : tyI Try.prog 18 = some (true, 1, 8, [.pointer none]) := by kernel_rfl
theorem fl_18_0 : flI Try.prog 18 0 = some 0 := by kernel_rfl
theorem ti_21 : tyI Try.prog 21 = some (false, 1, 4, [.int .i32 0]) := by kernel_rfl
theorem ti_22 : tyI Try.prog 22 = some (false, 1, 8, [.int .i64 0]) := by kernel_rfl
theorem ti_23 : tyI Try.prog 23 = some (false, 1, 24, [.slice none 0 0]) := by kernel_rfl
theorem sl_23 : slI Try.prog 23 = some 22 := by kernel_rfl
theorem ti_24 : tyI Try.prog 24 = some (false, 1, 24, [.slice none 0 0]) := by kernel_rfl
theorem sl_24 : slI Try.prog 24 = some 3 := by kernel_rfl
theorem ti_26 : tyI Try.prog 26 = some (false, 1, 24, [.slice none 0 0]) := by kernel_rfl
theorem sl_26 : slI Try.prog 26 = some 64 := by kernel_rfl
theorem ti_27 : tyI Try.prog 27 = some (true, 4, 64, [.slice none 0 0, .slice none 0 0, .int .i64 0, .int .i64 0]) := by kernel_rfl
theorem fl_27_0 : flI Try.prog 27 0 = some 0 := by kernel_rfl
theorem fl_27_1 : flI Try.prog 27 1 = some 1 := by kernel_rfl
theorem fl_27_2 : flI Try.prog 27 2 = some 2 := by kernel_rfl
theorem fl_27_3 : flI Try.prog 27 3 = some 3 := by kernel_rfl
theorem ti_28 : tyI Try.prog 28 = some (true, 4, 64, [.slice none 0 0, .slice none 0 0, .int .i64 0, .int .i64 0]) := by kernel_rfl
theorem fl_28_0 : flI Try.prog 28 0 = some 0 := by kernel_rfl
theorem fl_28_1 : flI Try.prog 28 1 = some 1 := by kernel_rfl
theorem fl_28_2 : flI Try.prog 28 2 = some 2 := by kernel_rfl
theorem fl_28_3 : flI Try.prog 28 3 = some 3 := by kernel_rfl
theorem ti_30 : tyI Try.prog 30 = some (true, 3, 24, [.int .i64 0, .int .i64 0, .int .i64 0]) := by kernel_rfl
theorem fl_30_0 : flI Try.prog 30 0 = some 0 := by kernel_rfl
theorem fl_30_1 : flI Try.prog 30 1 = some 1 := by kernel_rfl
theorem fl_30_2 : flI Try.prog 30 2 = some 2 := by kernel_rfl
theorem ti_31 : tyI Try.prog 31 = some (true, 3, 24, [.int .i64 0, .int .i64 0, .int .i64 0]) := by kernel_rfl
theorem fl_31_0 : flI Try.prog 31 0 = some 0 := by kernel_rfl
theorem fl_31_1 : flI Try.prog 31 1 = some 1 := by kernel_rfl
theorem fl_31_2 : flI Try.prog 31 2 = some 2 := by kernel_rfl
theorem ti_35 : tyI Try.prog 35 = some (true, 4, 32, [.int .i64 0, .int .i64 0, .int .i64 0, .int .i64 0]) := by kernel_rfl
theorem fl_35_0 : flI Try.prog 35 0 = some 0 := by kernel_rfl
theorem fl_35_1 : flI Try.prog 35 1 = some 1 := by kernel_rfl
theorem fl_35_2 : flI Try.prog 35 2 = some 2 := by kernel_rfl
theorem fl_35_3 : flI Try.prog 35 3 = some 3 := by kernel_rfl
theorem ti_36 : tyI Try.prog 36 = some (true, 4, 32, [.int .i64 0, .int .i64 0, .int .i64 0, .int .i64 0]) := by kernel_rfl
theorem fl_36_0 : flI Try.prog 36 0 = some 0 := by kernel_rfl
theorem fl_36_1 : flI Try.prog 36 1 = some 1 := by kernel_rfl
theorem fl_36_2 : flI Try.prog 36 2 = some 2 := by kernel_rfl
theorem fl_36_3 : flI Try.prog 36 3 = some 3 := by kernel_rfl
theorem ti_37 : tyI Try.prog 37 = some (false, 1, 24, [.slice none 0 0]) := by kernel_rfl
theorem sl_37 : slI Try.prog 37 = some 36 := by kernel_rfl
theorem ti_43 : tyI Try.prog 43 = some (false, 1, 8, [.pointer none]) := by kernel_rfl
theorem ti_45 : tyI Try.prog 45 = some (false, 1, 24, [.slice none 0 0]) := by kernel_rfl
theorem sl_45 : slI Try.prog 45 = some 94 := by kernel_rfl
theorem ti_46 : tyI Try.prog 46 = some (false, 1, 24, [.slice none 0 0]) := by kernel_rfl
theorem sl_46 : slI Try.prog 46 = some 24 := by kernel_rfl
theorem ti_47 : tyI Try.prog 47 = some (false, 1, 24, [.slice none 0 0]) := by kernel_rfl
theorem sl_47 : slI Try.prog 47 = some 56 := by kernel_rfl
theorem ti_48 : tyI Try.prog 48 = some (true, 6, 128, [.slice none 0 0, .slice none 0 0, .slice none 0 0, .slice none 0 0, .slice none 0 0, .bool false]) := by kernel_rfl
theorem fl_48_0 : flI Try.prog 48 0 = some 0 := by kernel_rfl
theorem fl_48_1 : flI Try.prog 48 1 = some 1 := by kernel_rfl
theorem fl_48_2 : flI Try.prog 48 2 = some 2 := by kernel_rfl
theorem fl_48_3 : flI Try.prog 48 3 = some 3 := by kernel_rfl
theorem fl_48_4 : flI Try.prog 48 4 = some 4 := by kernel_rfl
theorem fl_48_5 : flI Try.prog 48 5 = some 5 := by kernel_rfl
theorem ti_49 : tyI Try.prog 49 = some (true, 6, 128, [.slice none 0 0, .slice none 0 0, .slice none 0 0, .slice none 0 0, .slice none 0 0, .bool false]) := by kernel_rfl
theorem fl_49_0 : flI Try.prog 49 0 = some 0 := by kernel_rfl
theorem fl_49_1 : flI Try.prog 49 1 = some 1 := by kernel_rfl
theorem fl_49_2 : flI Try.prog 49 2 = some 2 := by kernel_rfl
theorem fl_49_3 : flI Try.prog 49 3 = some 3 := by kernel_rfl
theorem fl_49_4 : flI Try.prog 49 4 = some 4 := by kernel_rfl
theorem fl_49_5 : flI Try.prog 49 5 = some 5 := by kernel_rfl
theorem ti_55 : tyI Try.prog 55 = some (true, 3, 56, [.int .i64 0, .slice none 0 0, .slice none 0 0]) := by kernel_rfl
theorem fl_55_0 : flI Try.prog 55 0 = some 0 := by kernel_rfl
theorem fl_55_1 : flI Try.prog 55 1 = some 1 := by kernel_rfl
theorem fl_55_2 : flI Try.prog 55 2 = some 2 := by kernel_rfl
theorem ti_56 : tyI Try.prog 56 = some (true, 3, 56, [.int .i64 0, .slice none 0 0, .slice none 0 0]) := by kernel_rfl
theorem fl_56_0 : flI Try.prog 56 0 = some 0 := by kernel_rfl
theorem fl_56_1 : flI Try.prog 56 1 = some 1 := by kernel_rfl
theorem fl_56_2 : flI Try.prog 56 2 = some 2 := by kernel_rfl
theorem ti_59 : tyI Try.prog 59 = some (false, 1, 24, [.slice none 0 0]) := by kernel_rfl
theorem sl_59 : slI Try.prog 59 = some 46 := by kernel_rfl
theorem ti_62 : tyI Try.prog 62 = some (false, 1, 24, [.slice none 0 0]) := by kernel_rfl
theorem sl_62 : slI Try.prog 62 = some 66 := by kernel_rfl
theorem ti_64 : tyI Try.prog 64 = some (false, 1, 24, [.slice none 0 0]) := by kernel_rfl
theorem sl_64 : slI Try.prog 64 = some 73 := by kernel_rfl
theorem ti_66 : tyI Try.prog 66 = some (false, 1, 24, [.slice none 0 0]) := by kernel_rfl
theorem sl_66 : slI Try.prog 66 = some 4 := by kernel_rfl
theorem ti_72 : tyI Try.prog 72 = some (true, 4, 32, [.int .i64 0, .int .i64 0, .int .i64 0, .int .i64 0]) := by kernel_rfl
theorem fl_72_0 : flI Try.prog 72 0 = some 0 := by kernel_rfl
theorem fl_72_1 : flI Try.prog 72 1 = some 1 := by kernel_rfl
theorem fl_72_2 : flI Try.prog 72 2 = some 2 := by kernel_rfl
theorem fl_72_3 : flI Try.prog 72 3 = some 3 := by kernel_rfl
theorem ti_73 : tyI Try.prog 73 = some (true, 4, 32, [.int .i64 0, .int .i64 0, .int .i64 0, .int .i64 0]) := by kernel_rfl
theorem fl_73_0 : flI Try.prog 73 0 = some 0 := by kernel_rfl
theorem fl_73_1 : flI Try.prog 73 1 = some 1 := by kernel_rfl
theorem fl_73_2 : flI Try.prog 73 2 = some 2 := by kernel_rfl
theorem fl_73_3 : flI Try.prog 73 3 = some 3 := by kernel_rfl
theorem ti_74 : tyI Try.prog 74 = some (true, 2, 32, [.string ⟨#[]⟩, .string ⟨#[]⟩]) := by kernel_rfl
theorem fl_74_0 : flI Try.prog 74 0 = some 0 := by kernel_rfl
theorem fl_74_1 : flI Try.prog 74 1 = some 1 := by kernel_rfl
theorem ti_75 : tyI Try.prog 75 = some (true, 2, 32, [.string ⟨#[]⟩, .string ⟨#[]⟩]) := by kernel_rfl
theorem fl_75_0 : flI Try.prog 75 0 = some 0 := by kernel_rfl
theorem fl_75_1 : flI Try.prog 75 1 = some 1 := by kernel_rfl
theorem ti_77 : tyI Try.prog 77 = some (false, 1, 8, [.map none]) := by kernel_rfl
theorem ti_79 : tyI Try.prog 79 = some (true, 3, 24, [.int .i64 0, .int .i64 0, .int .i64 0]) := by kernel_rfl
theorem ti_86 : tyI Try.prog 86 = some (false, 1, 8, [.pointer none]) := by kernel_rfl
theorem ti_87 : tyI Try.prog 87 = some (false, 1, 24, [.slice none 0 0]) := by kernel_rfl
theorem sl_87 : slI Try.prog 87 = some 37 := by kernel_rfl
theorem ti_88 : tyI Try.prog 88 = some (false, 1, 8, [.map none]) := by kernel_rfl
theorem ti_89 : tyI Try.prog 89 = some (true, 2, 32, [.slice none 0 0, .map none]) := by kernel_rfl
theorem fl_89_0 : flI Try.prog 89 0 = some 0 := by kernel_rfl
theorem fl_89_1 : flI Try.prog 89 1 = some 1 := by kernel_rfl
theorem ti_90 : tyI Try.prog 90 = some (true, 2, 32, [.slice none 0 0, .map none]) := by kernel_rfl
theorem fl_90_0 : flI Try.prog 90 0 = some 0 := by kernel_rfl
theorem fl_90_1 : flI Try.prog 90 1 = some 1 := by kernel_rfl
theorem ti_92 : tyI Try.prog 92 = some (true, 4, 32, [.int .i64 0, .int .i64 0, .int .i64 0, .int .i64 0]) := by kernel_rfl
theorem ti_94 : tyI Try.prog 94 = some (false, 1, 8, [.pointer none]) := by kernel_rfl
theorem ti_99 : tyI Try.prog 99 = some (false, 1, 24, [.slice none 0 0]) := by kernel_rfl
theorem sl_99 : slI Try.prog 99 = some 139 := by kernel_rfl
theorem ti_100 : tyI Try.prog 100 = some (true, 3, 56, [.int .i64 0, .slice none 0 0, .slice none 0 0]) := by kernel_rfl
theorem fl_100_0 : flI Try.prog 100 0 = some 0 := by kernel_rfl
theorem fl_100_1 : flI Try.prog 100 1 = some 1 := by kernel_rfl
theorem fl_100_2 : flI Try.prog 100 2 = some 2 := by kernel_rfl
theorem ti_101 : tyI Try.prog 101 = some (true, 3, 56, [.int .i64 0, .slice none 0 0, .slice none 0 0]) := by kernel_rfl
theorem fl_101_0 : flI Try.prog 101 0 = some 0 := by kernel_rfl
theorem fl_101_1 : flI Try.prog 101 1 = some 1 := by kernel_rfl
theorem fl_101_2 : flI Try.prog 101 2 = some 2 := by kernel_rfl
theorem ti_102 : tyI Try.prog 102 = some (false, 1, 24, [.slice none 0 0]) := by kernel_rfl
theorem sl_102 : slI Try.prog 102 = some 101 := by kernel_rfl
theorem ti_103 : tyI Try.prog 103 = some (true, 10, 176, [.slice none 0 0, .slice none 0 0, .int .i64 0, .int .i64 0, .int .i64 0, .slice none 0 0, .slice none 0 0, .slice none 0 0, .slice none 0 0, .bool false]) := by kernel_rfl
theorem fl_103_0 : flI Try.prog 103 0 = some 0 := by kernel_rfl
theorem fl_103_1 : flI Try.prog 103 1 = some 4 := by kernel_rfl
theorem fl_103_2 : flI Try.prog 103 2 = some 5 := by kernel_rfl
theorem fl_103_3 : flI Try.prog 103 3 = some 6 := by kernel_rfl
theorem fl_103_4 : flI Try.prog 103 4 = some 7 := by kernel_rfl
theorem fl_103_5 : flI Try.prog 103 5 = some 8 := by kernel_rfl
theorem fl_103_6 : flI Try.prog 103 6 = some 9 := by kernel_rfl
theorem ti_104 : tyI Try.prog 104 = some (true, 10, 176, [.slice none 0 0, .slice none 0 0, .int .i64 0, .int .i64 0, .int .i64 0, .slice none 0 0, .slice none 0 0, .slice none 0 0, .slice none 0 0, .bool false]) := by kernel_rfl
theorem fl_104_0 : flI Try.prog 104 0 = some 0 := by kernel_rfl
theorem fl_104_1 : flI Try.prog 104 1 = some 4 := by kernel_rfl
theorem fl_104_2 : flI Try.prog 104 2 = some 5 := by kernel_rfl
theorem fl_104_3 : flI Try.prog 104 3 = some 6 := by kernel_rfl
theorem fl_104_4 : flI Try.prog 104 4 = some 7 := by kernel_rfl
theorem fl_104_5 : flI Try.prog 104 5 = some 8 := by kernel_rfl
theorem fl_104_6 : flI Try.prog 104 6 = some 9 := by kernel_rfl
theorem ti_115 : tyI Try.prog 115 = some (false, 1, 8, [.pointer none]) := by kernel_rfl
theorem ti_118 : tyI Try.prog 118 = some (false, 1, 24, [.slice none 0 0]) := by kernel_rfl
theorem sl_118 : slI Try.prog 118 = some 121 := by kernel_rfl
theorem ti_120 : tyI Try.prog 120 = some (true, 200, 200, [.bool false, .bool false, .bool false, .bool false, .bool false, .bool false, .bool false, .bool false, .bool false, .bool false, .bool false, .bool false, .bool false, .bool false, .bool false, .bool false, .bool false, .bool false, .bool false, .bool false, .bool false, .bool false, .bool false, .bool false, .bool false, .bool false, .bool false, .bool false, .bool false, .bool false, .bool false, .bool false, .bool false, .bool false, .bool false, .bool false, .bool false, .bool false, .bool false, .bool false, .bool false, .bool false, .bool false, .bool false, .bool false, .bool false, .bool false, .bool false, .bool false, .bool false, .bool false, .bool false, .bool false, .bool false, .bool false, .bool false, .bool false, .bool false, .bool false, .bool false, .bool false, .bool false, .bool false, .bool false, .bool false, .bool false, .bool false, .bool false, .bool false, .bool false, .bool false, .bool false, .bool false, .bool false, .bool false, .bool false, .bool false, .bool false, .bool false, .bool false, .bool false, .bool false, .bool false, .bool false, .bool false, .bool false, .bool false, .bool false, .bool false, .bool false, .bool false, .bool false, .bool false, .bool false, .bool false, .bool false, .bool false, .bool false, .bool false, .bool false, .bool false, .bool false, .bool false, .bool false, .bool false, .bool false, .bool false, .bool false, .bool false, .bool false, .bool false, .bool false, .bool false, .bool false, .bool false, .bool false, .bool false, .bool false, .bool false, .bool false, .bool false, .bool false, .bool false, .bool false, .bool false, .bool false, .bool false, .bool false, .bool false, .bool false, .bool false, .bool false, .bool false, .bool false, .bool false, .bool false, .bool false, .bool false, .bool false, .bool false, .bool false, .bool false, .bool false, .bool false, .bool false, .bool false, .bool false, .bool false, .bool false, .bool false, .bool false, .bool false, .bool false, .bool false, .bool false, .bool false, .bool false, .bool false, .bool false, .bool false, .bool false, .bool false, .bool false, .bool false, .bool false, .bool false, .bool false, .bool false, .bool false, .bool false, .bool false, .bool false, .bool false, .bool false, .bool false, .bool false, .bool false, .bool false, .bool false, .bool false, .bool false, .bool false, .bool false, .bool false, .bool false, .bool false, .bool false, .bool false, .bool false, .bool false, .bool false, .bool false, .bool false, .bool false, .bool false, .bool false, .bool false, .bool false, .bool false, .bool false]) := by kernel_rfl
theorem ti_121 : tyI Try.prog 121 = some (true, 200, 200, [.bool false, .bool false, .bool false, .bool false, .bool false, .bool false, .bool false, .bool false, .bool false, .bool false, .bool false, .bool false, .bool false, .bool false, .bool false, .bool false, .bool false, .bool false, .bool false, .bool false, .bool false, .bool false, .bool false, .bool false, .bool false, .bool false, .bool false, .bool false, .bool false, .bool false, .bool false, .bool false, .bool false, .bool false, .bool false, .bool false, .bool false, .bool false, .bool false, .bool false, .bool false, .bool false, .bool false, .bool false, .bool false, .bool false, .bool false, .bool false, .bool false, .bool false, .bool false, .bool false, .bool false, .bool false, .bool false, .bool false, .bool false, .bool false, .bool false, .bool false, .bool false, .bool false, .bool false, .bool false, .bool false, .bool false, .bool false, .bool false, .bool false, .bool false, .bool false, .bool false, .bool false, .bool false, .bool false, .bool false, .bool false, .bool false, .bool false, .bool false, .bool false, .bool false, .bool false, .bool false, .bool false, .bool false, .bool false, .bool false, .bool false, .bool false, .bool false, .bool false, .bool false, .bool false, .bool false, .bool false, .bool false, .bool false, .bool false, .bool false, .bool false, .bool false, .bool false, .bool false, .bool false, .bool false, .bool false, .bool false, .bool false, .bool false, .bool false, .bool false, .bool false, .bool false, .bool false, .bool false, .bool false, .bool false, .bool false, .bool false, .bool false, .bool false, .bool false, .bool false, .bool false, .bool false, .bool false, .bool false, .bool false, .bool false, .bool false, .bool false, .bool false, .bool false, .bool false, .bool false, .bool false, .bool false, .bool false, .bool false, .bool false, .bool false, .bool false, .bool false, .bool false, .bool false, .bool false, .bool false, .bool false, .bool false, .bool false, .bool false, .bool false, .bool false, .bool false, .bool false, .bool false, .bool false, .bool false, .bool false, .bool false, .bool false, .bool false, .bool false, .bool false, .bool false, .bool false, .bool false, .bool false, .bool false, .bool false, .bool false, .bool false, .bool false, .bool false, .bool false, .bool false, .bool false, .bool false, .bool false, .bool false, .bool false, .bool false, .bool false, .bool false, .bool false, .bool false, .bool false, .bool false, .bool false, .bool false, .bool false, .bool false, .bool false, .bool false, .bool false, .bool false, .bool false, .bool false, .bool false]) := by kernel_rfl
theorem ti_126 : tyI Try.prog 126 = some (false, 1, 24, [.slice none 0 0]) := by kernel_rfl
theorem sl_126 : slI Try.prog 126 = some 130 := by kernel_rfl
theorem ti_129 : tyI Try.prog 129 = some (false, 1, 8, [.map none]) := by kernel_rfl
theorem ti_130 : tyI Try.prog 130 = some (false, 1, 8, [.map none]) := by kernel_rfl
theorem ti_136 : tyI Try.prog 136 = some (false, 1, 8, [.pointer none]) := by kernel_rfl
theorem ti_138 : tyI Try.prog 138 = some (true, 3, 24, [.bool false, .int .i64 0, .int .i64 0]) := by kernel_rfl
theorem fl_138_0 : flI Try.prog 138 0 = some 0 := by kernel_rfl
theorem fl_138_1 : flI Try.prog 138 1 = some 1 := by kernel_rfl
theorem fl_138_2 : flI Try.prog 138 2 = some 2 := by kernel_rfl
theorem ti_139 : tyI Try.prog 139 = some (true, 3, 24, [.bool false, .int .i64 0, .int .i64 0]) := by kernel_rfl
theorem fl_139_0 : flI Try.prog 139 0 = some 0 := by kernel_rfl
theorem fl_139_1 : flI Try.prog 139 1 = some 1 := by kernel_rfl
theorem fl_139_2 : flI Try.prog 139 2 = some 2 := by kernel_rfl
theorem ti_150 : tyI Try.prog 150 = some (false, 1, 8, [.pointer none]) := by kernel_rfl
theorem ti_151 : tyI Try.prog 151 = some (false, 1, 24, [.slice none 0 0]) := by kernel_rfl
theorem sl_151 : slI Try.prog 151 = some 150 := by kernel_rfl
theorem ti_156 : tyI Try.prog 156 = some (false, 1, 8, [.int .u64 0]) := by kernel_rfl
theorem ti_157 : tyI Try.prog 157 = some (false, 1, 8, [.int .u64 0]) := by kernel_rfl
theorem ti_159 : tyI Try.prog 159 = some (true, 4, 40, [.pointer none, .pointer none, .pointer none, .string ⟨#[]⟩]) := by kernel_rfl
theorem fl_159_0 : flI Try.prog 159 0 = some 0 := by kernel_rfl
theorem fl_159_1 : flI Try.prog 159 1 = some 1 := by kernel_rfl
theorem fl_159_2 : flI Try.prog 159 2 = some 2 := by kernel_rfl
theorem fl_159_3 : flI Try.prog 159 3 = some 3 := by kernel_rfl
theorem ti_165 : tyI Try.prog 165 = some (false, 1, 4, [.int .u32 0]) := by kernel_rfl
theorem ti_169 : tyI Try.prog 169 = some (false, 1, 8, [.pointer none]) := by kernel_rfl
theorem ti_172 : tyI Try.prog 172 = some (true, 11, 48, [.int .u64 0, .int .u64 0, .int .u32 0, .int .u8 0, .int .u8 0, .int .u8 0, .int .u8 0, .nilFunc, .pointer none, .int .i32 0, .int .i32 0]) := by kernel_rfl
theorem fl_172_0 : flI Try.prog 172 0 = some 0 := by kernel_rfl
theorem fl_172_1 : flI Try.prog 172 1 = some 1 := by kernel_rfl
theorem fl_172_2 : flI Try.prog 172 2 = some 2 := by kernel_rfl
theorem fl_172_3 : flI Try.prog 172 3 = some 3 := by kernel_rfl
theorem fl_172_4 : flI Try.prog 172 4 = some 4 := by kernel_rfl
theorem fl_172_5 : flI Try.prog 172 5 = some 5 := by kernel_rfl
theorem fl_172_6 : flI Try.prog 172 6 = some 6 := by kernel_rfl
theorem fl_172_7 : flI Try.prog 172 7 = some 7 := by kernel_rfl
theorem fl_172_8 : flI Try.prog 172 8 = some 8 := by kernel_rfl
theorem fl_172_9 : flI Try.prog 172 9 = some 9 := by kernel_rfl
theorem fl_172_10 : flI Try.prog 172 10 = some 10 := by kernel_rfl
theorem ti_174 : tyI Try.prog 174 = some (false, 1, 8, [.pointer none]) := by kernel_rfl
theorem bd_3 : bodyI Try.prog 3 = true := by kernel_rfl
theorem bd_4 : bodyI Try.prog 4 = true := by kernel_rfl
theorem bd_5 : bodyI Try.prog 5 = true := by kernel_rfl
theorem bd_6 : bodyI Try.prog 6 = true := by kernel_rfl
theorem bd_7 : bodyI Try.prog 7 = true := by kernel_rfl
theorem bd_8 : bodyI Try.prog 8 = true := by kernel_rfl
theorem bd_9 : bodyI Try.prog 9 = true := by kernel_rfl
theorem bd_10 : bodyI Try.prog 10 = true := by kernel_rfl
theorem bd_11 : bodyI Try.prog 11 = true := by kernel_rfl
theorem bd_12 : bodyI Try.prog 12 = true := by kernel_rfl
theorem bd_13 : bodyI Try.prog 13 = true := by kernel_rfl
theorem bd_14 : bodyI Try.prog 14 = true := by kernel_rfl
theorem bd_15 : bodyI Try.prog 15 = true := by kernel_rfl
theorem bd_16 : bodyI Try.prog 16 = true := by kernel_rfl
theorem bd_17 : bodyI Try.prog 17 = true := by kernel_rfl
theorem bd_18 : bodyI Try.prog 18 = true := by kernel_rfl
theorem bd_19 : bodyI Try.prog 19 = true := by kernel_rfl
theorem bd_20 : bodyI Try.prog 20 = true := by kernel_rfl
theorem bd_21 : bodyI Try.prog 21 = true := by kernel_rfl
theorem bd_22 : bodyI Try.prog 22 = true := by kernel_rfl
theorem bd_23 : bodyI Try.prog 23 = true := by kernel_rfl
theorem bd_24 : bodyI Try.prog 24 = true := by kernel_rfl
theorem bd_25 : bodyI Try.prog 25 = true := by kernel_rfl
theorem bd_26 : bodyI Try.prog 26 = true := by kernel_rfl
theorem bd_27 : bodyI Try.prog 27 = true := by kernel_rfl
theorem bd_28 : bodyI Try.prog 28 = true := by kernel_rfl
theorem bd_29 : bodyI Try.prog 29 = true := by kernel_rfl
theorem bd_30 : bodyI Try.prog 30 = true := by kernel_rfl
theorem bd_31 : bodyI Try.prog 31 = true := by kernel_rfl
theorem bd_32 : bodyI Try.prog 32 = true := by kernel_rfl
theorem bd_33 : bodyI Try.prog 33 = true := by kernel_rfl
theorem bd_34 : bodyI Try.prog 34 = true := by kernel_rfl
theorem bd_35 : bodyI Try.prog 35 = true := by kernel_rfl
theorem bd_36 : bodyI Try.prog 36 = true := by kernel_rfl
theorem bd_37 : bodyI Try.prog 37 = true := by kernel_rfl
theorem bd_38 : bodyI Try.prog 38 = true := by kernel_rfl
theorem bd_39 : bodyI Try.prog 39 = true := by kernel_rfl
theorem bd_40 : bodyI Try.prog 40 = true := by kernel_rfl
theorem bd_41 : bodyI Try.prog 41 = true := by kernel_rfl
theorem bd_42 : bodyI Try.prog 42 = true := by kernel_rfl
theorem bd_43 : bodyI Try.prog 43 = true := by kernel_rfl
theorem bd_44 : bodyI Try.prog 44 = true := by kernel_rfl
theorem bd_45 : bodyI Try.prog 45 = true := by kernel_rfl
theorem bd_46 : bodyI Try.prog 46 = true := by kernel_rfl
theorem bd_47 : bodyI Try.prog 47 = true := by kernel_rfl
theorem bd_48 : bodyI Try.prog 48 = true := by kernel_rfl
theorem bd_49 : bodyI Try.prog 49 = true := by kernel_rfl
theorem bd_50 : bodyI Try.prog 50 = true := by kernel_rfl
theorem bd_51 : bodyI Try.prog 51 = true := by kernel_rfl
theorem bd_52 : bodyI Try.prog 52 = true := by kernel_rfl
theorem bd_53 : bodyI Try.prog 53 = true := by kernel_rfl
theorem bd_54 : bodyI Try.prog 54 = true := by kernel_rfl
theorem bd_55 : bodyI Try.prog 55 = true := by kernel_rfl
theorem bd_56 : bodyI Try.prog 56 = true := by kernel_rfl
theorem bd_57 : bodyI Try.prog 57 = true := by kernel_rfl
theorem bd_58 : bodyI Try.prog 58 = true := by kernel_rfl
theorem bd_59 : bodyI Try.prog 59 = true := by kernel_rfl
theorem bd_60 : bodyI Try.prog 60 = true := by kernel_rfl
theorem bd_61 : bodyI Try.prog 61 = true := by kernel_rfl
theorem bd_62 : bodyI Try.prog 62 = true := by kernel_rfl
theorem bd_63 : bodyI Try.prog 63 = true := by kernel_rfl
theorem bd_64 : bodyI Try.prog 64 = true := by kernel_rfl
theorem bd_65 : bodyI Try.prog 65 = true := by kernel_rfl
theorem bd_66 : bodyI Try.prog 66 = true := by kernel_rfl
theorem bd_67 : bodyI Try.prog 67 = true := by kernel_rfl
theorem bd_68 : bodyI Try.prog 68 = true := by kernel_rfl
theorem bd_69 : bodyI Try.prog 69 = true := by kernel_rfl
theorem bd_70 : bodyI Try.prog 70 = true := by kernel_rfl
theorem bd_71 : bodyI Try.prog 71 = true := by kernel_rfl
theorem bd_72 : bodyI Try.prog 72 = true := by kernel_rfl
theorem bd_73 : bodyI Try.prog 73 = true := by kernel_rfl
theorem bd_74 : bodyI Try.prog 74 = true := by kernel_rfl
theorem bd_75 : bodyI Try.prog 75 = true := by kernel_rfl
theorem bd_76 : bodyI Try.prog 76 = true := by kernel_rfl
theorem bd_77 : bodyI Try.prog 77 = true := by kernel_rfl
theorem bd_78 : bodyI Try.prog 78 = true := by kernel_rfl
theorem bd_79 : bodyI Try.prog 79 = true := by kernel_rfl
theorem bd_80 : bodyI Try.prog 80 = true := by kernel_rfl
theorem bd_81 : bodyI Try.prog 81 = true := by kernel_rfl
theorem bd_82 : bodyI Try.prog 82 = true := by kernel_rfl
theorem bd_83 : bodyI Try.prog 83 = true := by kernel_rfl
theorem bd_84 : bodyI Try.prog 84 = true := by kernel_rfl
theorem bd_85 : bodyI Try.prog 85 = true := by kernel_rfl
theorem bd_86 : bodyI Try.prog 86 = true := by kernel_rfl
theorem bd_87 : bodyI Try.prog 87 = true := by kernel_rfl
theorem bd_88 : bodyI Try.prog 88 = true := by kernel_rfl
theorem bd_89 : bodyI Try.prog 89 = true := by kernel_rfl
theorem bd_90 : bodyI Try.prog 90 = true := by kernel_rfl
theorem bd_91 : bodyI Try.prog 91 = true := by kernel_rfl
theorem bd_92 : bodyI Try.prog 92 = true := by kernel_rfl
theorem bd_93 : bodyI Try.prog 93 = true := by kernel_rfl
theorem bd_94 : bodyI Try.prog 94 = true := by kernel_rfl
theorem bd_95 : bodyI Try.prog 95 = true := by kernel_rfl
theorem bd_96 : bodyI Try.prog 96 = true := by kernel_rfl
theorem bd_97 : bodyI Try.prog 97 = true := by kernel_rfl
theorem bd_98 : bodyI Try.prog 98 = true := by kernel_rfl
theorem bd_99 : bodyI Try.prog 99 = true := by kernel_rfl
theorem bd_100 : bodyI Try.prog 100 = true := by kernel_rfl
theorem bd_101 : bodyI Try.prog 101 = true := by kernel_rfl
theorem bd_102 : bodyI Try.prog 102 = true := by kernel_rfl
theorem bd_103 : bodyI Try.prog 103 = true := by kernel_rfl
theorem bd_104 : bodyI Try.prog 104 = true := by kernel_rfl
theorem bd_105 : bodyI Try.prog 105 = true := by kernel_rfl
theorem bd_106 : bodyI Try.prog 106 = true := by kernel_rfl
theorem bd_107 : bodyI Try.prog 107 = true := by kernel_rfl
theorem bd_108 : bodyI Try.prog 108 = true := by kernel_rfl
theorem bd_109 : bodyI Try.prog 109 = true := by kernel_rfl
theorem bd_110 : bodyI Try.prog 110 = true := by kernel_rfl
theorem bd_111 : bodyI Try.prog 111 = true := by kernel_rfl
theorem bd_112 : bodyI Try.prog 112 = true := by kernel_rfl
theorem bd_113 : bodyI Try.prog 113 = true := by kernel_rfl
theorem bd_114 : bodyI Try.prog 114 = true := by kernel_rfl
theorem bd_115 : bodyI Try.prog 115 = true := by kernel_rfl
theorem bd_116 : bodyI Try.prog 116 = true := by kernel_rfl
theorem bd_117 : bodyI Try.prog 117 = true := by kernel_rfl
theorem bd_118 : bodyI Try.prog 118 = true := by kernel_rfl
theorem bd_119 : bodyI Try.prog 119 = true := by kernel_rfl
theorem bd_121 : bodyI Try.prog 121 = true := by kernel_rfl
/-- How long rows are. -/
theorem lens9 : (∀ {α : Type} (l m : List α), (l ++ m).length = l.length + m.length) ∧ (∀ {α : Type} (a : α) (l : List α), (a :: l).length = l.length + 1) ∧ (∀ {α : Type}, ([] : List α).length = 0) ∧ (∀ {α : Type} (l : List α) (i : Nat) (a : α), (l.set i a).length = l.length) ∧ (∀ {α : Type} (n : Nat) (a : α), (List.replicate n a).length = n) ∧ (∀ {α β : Type} (f : α → β) (l : List α), (l.map f).length = l.length) ∧ (∀ n : Nat, (List.range n).length = n) :=
  ⟨fun l m => List.length_append, fun a l => List.length_cons, List.length_nil, fun l i a => List.length_set, fun n a => List.length_replicate, fun f l => List.length_map f, fun n => List.length_range⟩

end Go.Proofs.Ytanhbpofhebbaaa
