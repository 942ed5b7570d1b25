/-
  Facts on the types and functions of this program, by reckoning.
-/
import Derived.Test.YthdkmhaneellcaaDoorRows
import Derived.Test.YthdkmhaneellcaaDoorS43
namespace Go.Proofs.YthdkmhaneellcaaDoor
open Go.RowKit
set_option linter.unusedSimpArgs false
set_option linter.unusedVariables false
theorem ti_3 : tyI Tryd.prog 3 = some (false, 1, 8, [.int .i64 0]) := by kernel_rfl
theorem ti_9 : tyI Tryd.prog 9 = some (false, 1, 16, [.string ⟨#[]⟩]) := by kernel_rfl
theorem ti_22 : tyI Tryd.prog 22 = some (false, 1, 24, [.slice none 0 0]) := by kernel_rfl
theorem sl_22 : slI Tryd.prog 22 = some 29 := by kernel_rfl
theorem ti_25 : tyI Tryd.prog 25 = some (true, 3, 24, [.int .i64 0, .int .i64 0, .int .i64 0]) := by kernel_rfl
theorem ti_29 : tyI Tryd.prog 29 = some (true, 4, 40, [.int .i64 0, .int .i64 0, .int .i64 0, .string ⟨#[]⟩]) := by kernel_rfl
theorem fl_29_0 : flI Tryd.prog 29 0 = some 0 := by kernel_rfl
theorem fl_29_1 : flI Tryd.prog 29 1 = some 1 := by kernel_rfl
theorem fl_29_3 : flI Tryd.prog 29 3 = some 3 := by kernel_rfl
theorem ti_32 : tyI Tryd.prog 32 = some (true, 3, 24, [.int .i64 0, .int .i64 0, .int .i64 0]) := by kernel_rfl
theorem fl_32_0 : flI Tryd.prog 32 0 = some 0 := by kernel_rfl
theorem ti_33 : tyI Tryd.prog 33 = some (false, 1, 8, [.pointer none]) := by kernel_rfl
theorem fl_35_0 : flI Tryd.prog 35 0 = some 0 := by kernel_rfl
theorem fl_35_1 : flI Tryd.prog 35 1 = some 1 := by kernel_rfl
theorem sl_46 : slI Tryd.prog 46 = some 9 := by kernel_rfl
theorem bd_4 : bodyI Tryd.prog 4 = true := by kernel_rfl
theorem bd_5 : bodyI Tryd.prog 5 = true := by kernel_rfl
theorem bd_6 : bodyI Tryd.prog 6 = true := by kernel_rfl
theorem bd_7 : bodyI Tryd.prog 7 = true := by kernel_rfl
theorem bd_8 : bodyI Tryd.prog 8 = true := by kernel_rfl
theorem bd_9 : bodyI Tryd.prog 9 = true := by kernel_rfl
theorem bd_10 : bodyI Tryd.prog 10 = true := by kernel_rfl
theorem bd_11 : bodyI Tryd.prog 11 = true := by kernel_rfl
theorem bd_12 : bodyI Tryd.prog 12 = true := by kernel_rfl
theorem bd_13 : bodyI Tryd.prog 13 = true := by kernel_rfl
theorem bd_14 : bodyI Tryd.prog 14 = true := by kernel_rfl
theorem bd_15 : bodyI Tryd.prog 15 = true := by kernel_rfl
theorem bd_16 : bodyI Tryd.prog 16 = true := by kernel_rfl
theorem bd_17 : bodyI Tryd.prog 17 = true := by kernel_rfl
theorem bd_18 : bodyI Tryd.prog 18 = true := by kernel_rfl
theorem bd_19 : bodyI Tryd.prog 19 = true := by kernel_rfl
theorem bd_20 : bodyI Tryd.prog 20 = true := by kernel_rfl
theorem bd_21 : bodyI Tryd.prog 21 = true := by kernel_rfl
theorem bd_22 : bodyI Tryd.prog 22 = true := by kernel_rfl
theorem bd_23 : bodyI Tryd.prog 23 = true := by kernel_rfl
theorem bd_24 : bodyI Tryd.prog 24 = true := by kernel_rfl
theorem bd_25 : bodyI Tryd.prog 25 = true := by kernel_rfl
theorem bd_26 : bodyI Tryd.prog 26 = true := by kernel_rfl
theorem bd_27 : bodyI Tryd.prog 27 = true := by kernel_rfl
theorem bd_28 : bodyI Tryd.prog 28 = true := by kernel_rfl
theorem bd_29 : bodyI Tryd.prog 29 = true := by kernel_rfl
theorem bd_30 : bodyI Tryd.prog 30 = true := by kernel_rfl
theorem bd_32 : bodyI Tryd.prog 32 = true := by kernel_rfl
theorem bd_35 : bodyI Tryd.prog 35 = true := by kernel_rfl
theorem bd_41 : bodyI Tryd.prog 41 = true := by kernel_rfl
theorem bd_42 : bodyI Tryd.prog 42 = true := by kernel_rfl
end Go.Proofs.YthdkmhaneellcaaDoor
