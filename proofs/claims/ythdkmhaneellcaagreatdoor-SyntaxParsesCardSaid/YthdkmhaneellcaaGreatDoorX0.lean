/-
  Facts on the types and functions of this program, by reckoning.
-/
import Derived.Test.YthdkmhaneellcaaGreatDoorRows
import Derived.Test.YthdkmhaneellcaaGreatDoorS43
namespace Go.Proofs.YthdkmhaneellcaaGreatDoor
open Go.RowKit
set_option linter.unusedSimpArgs false
set_option linter.unusedVariables false
theorem ti_3 : tyI Tryz.prog 3 = some (false, 1, 8, [.int .i64 0]) := by kernel_rfl
theorem ti_9 : tyI Tryz.prog 9 = some (false, 1, 16, [.string ⟨#[]⟩]) := by kernel_rfl
theorem ti_22 : tyI Tryz.prog 22 = some (false, 1, 24, [.slice none 0 0]) := by kernel_rfl
theorem sl_22 : slI Tryz.prog 22 = some 57 := by kernel_rfl
theorem ti_23 : tyI Tryz.prog 23 = some (false, 1, 8, [.int .i64 0]) := by kernel_rfl
theorem ti_25 : tyI Tryz.prog 25 = some (true, 3, 24, [.int .i64 0, .int .i64 0, .int .i64 0]) := by kernel_rfl
theorem fl_25_0 : flI Tryz.prog 25 0 = some 0 := by kernel_rfl
theorem ti_30 : tyI Tryz.prog 30 = some (false, 1, 24, [.slice none 0 0]) := by kernel_rfl
theorem sl_30 : slI Tryz.prog 30 = some 3 := by kernel_rfl
theorem ti_42 : tyI Tryz.prog 42 = some (false, 1, 24, [.slice none 0 0]) := by kernel_rfl
theorem sl_42 : slI Tryz.prog 42 = some 81 := by kernel_rfl
theorem ti_46 : tyI Tryz.prog 46 = some (true, 3, 24, [.int .i64 0, .int .i64 0, .int .i64 0]) := by kernel_rfl
theorem fl_46_0 : flI Tryz.prog 46 0 = some 0 := by kernel_rfl
theorem fl_49_0 : flI Tryz.prog 49 0 = some 0 := by kernel_rfl
theorem fl_49_1 : flI Tryz.prog 49 1 = some 1 := by kernel_rfl
theorem fl_49_2 : flI Tryz.prog 49 2 = some 2 := by kernel_rfl
theorem fl_49_3 : flI Tryz.prog 49 3 = some 3 := by kernel_rfl
theorem fl_49_4 : flI Tryz.prog 49 4 = some 4 := by kernel_rfl
theorem fl_52_0 : flI Tryz.prog 52 0 = some 0 := by kernel_rfl
theorem fl_52_1 : flI Tryz.prog 52 1 = some 1 := by kernel_rfl
theorem fl_52_2 : flI Tryz.prog 52 2 = some 2 := by kernel_rfl
theorem fl_52_3 : flI Tryz.prog 52 3 = some 3 := by kernel_rfl
theorem fl_52_4 : flI Tryz.prog 52 4 = some 4 := by kernel_rfl
theorem fl_52_5 : flI Tryz.prog 52 5 = some 5 := by kernel_rfl
theorem ti_57 : tyI Tryz.prog 57 = some (true, 5, 64, [.int .i64 0, .int .i64 0, .int .i64 0, .string ⟨#[]⟩, .slice none 0 0]) := by kernel_rfl
theorem fl_57_0 : flI Tryz.prog 57 0 = some 0 := by kernel_rfl
theorem fl_57_1 : flI Tryz.prog 57 1 = some 1 := by kernel_rfl
theorem fl_57_2 : flI Tryz.prog 57 2 = some 2 := by kernel_rfl
theorem fl_57_3 : flI Tryz.prog 57 3 = some 3 := by kernel_rfl
theorem fl_57_4 : flI Tryz.prog 57 4 = some 4 := by kernel_rfl
theorem ti_76 : tyI Tryz.prog 76 = some (true, 3, 24, [.int .i64 0, .int .i64 0, .int .i64 0]) := by kernel_rfl
theorem fl_76_0 : flI Tryz.prog 76 0 = some 0 := by kernel_rfl
theorem ti_77 : tyI Tryz.prog 77 = some (false, 1, 8, [.pointer none]) := by kernel_rfl
theorem fl_79_0 : flI Tryz.prog 79 0 = some 0 := by kernel_rfl
theorem fl_79_1 : flI Tryz.prog 79 1 = some 1 := by kernel_rfl
theorem ti_81 : tyI Tryz.prog 81 = some (true, 4, 40, [.int .i64 0, .int .i64 0, .int .i64 0, .string ⟨#[]⟩]) := by kernel_rfl
theorem fl_81_0 : flI Tryz.prog 81 0 = some 0 := by kernel_rfl
theorem fl_81_1 : flI Tryz.prog 81 1 = some 1 := by kernel_rfl
theorem fl_81_2 : flI Tryz.prog 81 2 = some 2 := by kernel_rfl
theorem fl_81_3 : flI Tryz.prog 81 3 = some 3 := by kernel_rfl
theorem ti_103 : tyI Tryz.prog 103 = some (false, 1, 24, [.slice none 0 0]) := by kernel_rfl
theorem sl_103 : slI Tryz.prog 103 = some 9 := by kernel_rfl
theorem sl_144 : slI Tryz.prog 144 = some 103 := by kernel_rfl
theorem bd_7 : bodyI Tryz.prog 7 = true := by kernel_rfl
theorem bd_8 : bodyI Tryz.prog 8 = true := by kernel_rfl
theorem bd_9 : bodyI Tryz.prog 9 = true := by kernel_rfl
theorem bd_12 : bodyI Tryz.prog 12 = true := by kernel_rfl
theorem bd_15 : bodyI Tryz.prog 15 = true := by kernel_rfl
theorem bd_16 : bodyI Tryz.prog 16 = true := by kernel_rfl
theorem bd_17 : bodyI Tryz.prog 17 = true := by kernel_rfl
theorem bd_18 : bodyI Tryz.prog 18 = true := by kernel_rfl
theorem bd_19 : bodyI Tryz.prog 19 = true := by kernel_rfl
theorem bd_20 : bodyI Tryz.prog 20 = true := by kernel_rfl
theorem bd_21 : bodyI Tryz.prog 21 = true := by kernel_rfl
theorem bd_22 : bodyI Tryz.prog 22 = true := by kernel_rfl
theorem bd_23 : bodyI Tryz.prog 23 = true := by kernel_rfl
theorem bd_24 : bodyI Tryz.prog 24 = true := by kernel_rfl
theorem bd_31 : bodyI Tryz.prog 31 = true := by kernel_rfl
theorem bd_32 : bodyI Tryz.prog 32 = true := by kernel_rfl
theorem bd_33 : bodyI Tryz.prog 33 = true := by kernel_rfl
theorem bd_34 : bodyI Tryz.prog 34 = true := by kernel_rfl
theorem bd_35 : bodyI Tryz.prog 35 = true := by kernel_rfl
theorem bd_36 : bodyI Tryz.prog 36 = true := by kernel_rfl
theorem bd_37 : bodyI Tryz.prog 37 = true := by kernel_rfl
theorem bd_38 : bodyI Tryz.prog 38 = true := by kernel_rfl
theorem bd_39 : bodyI Tryz.prog 39 = true := by kernel_rfl
theorem bd_40 : bodyI Tryz.prog 40 = true := by kernel_rfl
theorem bd_41 : bodyI Tryz.prog 41 = true := by kernel_rfl
theorem bd_42 : bodyI Tryz.prog 42 = true := by kernel_rfl
theorem bd_43 : bodyI Tryz.prog 43 = true := by kernel_rfl
theorem bd_44 : bodyI Tryz.prog 44 = true := by kernel_rfl
theorem bd_45 : bodyI Tryz.prog 45 = true := by kernel_rfl
theorem bd_57 : bodyI Tryz.prog 57 = true := by kernel_rfl
theorem bd_58 : bodyI Tryz.prog 58 = true := by kernel_rfl
theorem bd_59 : bodyI Tryz.prog 59 = true := by kernel_rfl
theorem bd_60 : bodyI Tryz.prog 60 = true := by kernel_rfl
theorem bd_61 : bodyI Tryz.prog 61 = true := by kernel_rfl
theorem bd_62 : bodyI Tryz.prog 62 = true := by kernel_rfl
theorem bd_63 : bodyI Tryz.prog 63 = true := by kernel_rfl
theorem bd_64 : bodyI Tryz.prog 64 = true := by kernel_rfl
theorem bd_65 : bodyI Tryz.prog 65 = true := by kernel_rfl
theorem bd_66 : bodyI Tryz.prog 66 = true := by kernel_rfl
theorem bd_67 : bodyI Tryz.prog 67 = true := by kernel_rfl
theorem bd_68 : bodyI Tryz.prog 68 = true := by kernel_rfl
theorem bd_69 : bodyI Tryz.prog 69 = true := by kernel_rfl
theorem bd_70 : bodyI Tryz.prog 70 = true := by kernel_rfl
theorem bd_71 : bodyI Tryz.prog 71 = true := by kernel_rfl
theorem bd_72 : bodyI Tryz.prog 72 = true := by kernel_rfl
theorem bd_73 : bodyI Tryz.prog 73 = true := by kernel_rfl
theorem bd_74 : bodyI Tryz.prog 74 = true := by kernel_rfl
theorem bd_75 : bodyI Tryz.prog 75 = true := by kernel_rfl
theorem bd_76 : bodyI Tryz.prog 76 = true := by kernel_rfl
theorem bd_77 : bodyI Tryz.prog 77 = true := by kernel_rfl
theorem bd_78 : bodyI Tryz.prog 78 = true := by kernel_rfl
theorem bd_79 : bodyI Tryz.prog 79 = true := by kernel_rfl
theorem bd_80 : bodyI Tryz.prog 80 = true := by kernel_rfl
theorem bd_81 : bodyI Tryz.prog 81 = true := by kernel_rfl
theorem bd_82 : bodyI Tryz.prog 82 = true := by kernel_rfl
theorem bd_83 : bodyI Tryz.prog 83 = true := by kernel_rfl
theorem bd_84 : bodyI Tryz.prog 84 = true := by kernel_rfl
theorem bd_85 : bodyI Tryz.prog 85 = true := by kernel_rfl
theorem bd_99 : bodyI Tryz.prog 99 = true := by kernel_rfl
theorem bd_101 : bodyI Tryz.prog 101 = true := by kernel_rfl
theorem bd_104 : bodyI Tryz.prog 104 = true := by kernel_rfl
theorem bd_105 : bodyI Tryz.prog 105 = true := by kernel_rfl
theorem bd_106 : bodyI Tryz.prog 106 = true := by kernel_rfl
theorem bd_107 : bodyI Tryz.prog 107 = true := by kernel_rfl
theorem bd_108 : bodyI Tryz.prog 108 = true := by kernel_rfl
theorem bd_109 : bodyI Tryz.prog 109 = true := by kernel_rfl
theorem bd_121 : bodyI Tryz.prog 121 = true := by kernel_rfl
theorem bd_127 : bodyI Tryz.prog 127 = true := by kernel_rfl
theorem bd_128 : bodyI Tryz.prog 128 = true := by kernel_rfl
theorem bd_138 : bodyI Tryz.prog 138 = true := by kernel_rfl
theorem bd_139 : bodyI Tryz.prog 139 = true := by kernel_rfl
end Go.Proofs.YthdkmhaneellcaaGreatDoor
