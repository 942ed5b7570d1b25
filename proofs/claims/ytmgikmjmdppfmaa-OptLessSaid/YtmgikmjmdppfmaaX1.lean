/-
  Contracts of functions of this program and of the references, each walked once.
-/
import Derived.Test.YtmgikmjmdppfmaaRows
import Derived.Test.YtmgikmjmdppfmaaS43
section
namespace Go.Proofs.Ytmgikmjmdppfmaa
open Go.RowKit
set_option linter.unusedSimpArgs false
set_option linter.unusedVariables false
theorem ti_3 : tyI Try.prog 3 = some (false, 1, 8, [.int .i64 0]) := by kernel_rfl
theorem ti_4 : tyI Try.prog 4 = some (false, 1, 1, [.bool false]) := by kernel_rfl
theorem ti_22 : tyI Try.prog 22 = some (false, 1, 24, [.slice none 0 0]) := by kernel_rfl
theorem sl_22 : slI Try.prog 22 = some 45 := by kernel_rfl
theorem ti_23 : tyI Try.prog 23 = some (false, 1, 24, [.slice none 0 0]) := by kernel_rfl
theorem sl_23 : slI Try.prog 23 = some 3 := by kernel_rfl
theorem ti_25 : tyI Try.prog 25 = some (true, 4, 64, [.slice none 0 0, .slice none 0 0, .int .i64 0, .int .i64 0]) := by kernel_rfl
theorem fl_25_0 : flI Try.prog 25 0 = some 0 := by kernel_rfl
theorem fl_25_1 : flI Try.prog 25 1 = some 1 := by kernel_rfl
theorem fl_25_3 : flI Try.prog 25 3 = some 3 := by kernel_rfl
theorem ti_27 : tyI Try.prog 27 = some (false, 1, 8, [.int .i64 0]) := by kernel_rfl
theorem ti_29 : tyI Try.prog 29 = some (true, 3, 24, [.int .i64 0, .int .i64 0, .int .i64 0]) := by kernel_rfl
theorem fl_29_0 : flI Try.prog 29 0 = some 0 := by kernel_rfl
theorem ti_44 : tyI Try.prog 44 = some (true, 4, 32, [.int .i64 0, .int .i64 0, .int .i64 0, .int .i64 0]) := by kernel_rfl
theorem fl_44_0 : flI Try.prog 44 0 = some 0 := by kernel_rfl
theorem fl_44_1 : flI Try.prog 44 1 = some 1 := by kernel_rfl
theorem fl_44_2 : flI Try.prog 44 2 = some 2 := by kernel_rfl
theorem fl_44_3 : flI Try.prog 44 3 = some 3 := by kernel_rfl
theorem ti_45 : tyI Try.prog 45 = some (false, 1, 24, [.slice none 0 0]) := by kernel_rfl
theorem sl_45 : slI Try.prog 45 = some 44 := by kernel_rfl
theorem ti_52 : tyI Try.prog 52 = some (false, 1, 24, [.slice none 0 0]) := by kernel_rfl
theorem sl_52 : slI Try.prog 52 = some 55 := by kernel_rfl
theorem ti_55 : tyI Try.prog 55 = some (true, 200, 200, [.bool false, .bool false, .bool false, .bool false, .bool false, .bool false, .bool false, .bool false, .bool false, .bool false, .bool false, .bool false, .bool false, .bool false, .bool false, .bool false, .bool false, .bool false, .bool false, .bool false, .bool false, .bool false, .bool false, .bool false, .bool false, .bool false, .bool false, .bool false, .bool false, .bool false, .bool false, .bool false, .bool false, .bool false, .bool false, .bool false, .bool false, .bool false, .bool false, .bool false, .bool false, .bool false, .bool false, .bool false, .bool false, .bool false, .bool false, .bool false, .bool false, .bool false, .bool false, .bool false, .bool false, .bool false, .bool false, .bool false, .bool false, .bool false, .bool false, .bool false, .bool false, .bool false, .bool false, .bool false, .bool false, .bool false, .bool false, .bool false, .bool false, .bool false, .bool false, .bool false, .bool false, .bool false, .bool false, .bool false, .bool false, .bool false, .bool false, .bool false, .bool false, .bool false, .bool false, .bool false, .bool false, .bool false, .bool false, .bool false, .bool false, .bool false, .bool false, .bool false, .bool false, .bool false, .bool false, .bool false, .bool false, .bool false, .bool false, .bool false, .bool false, .bool false, .bool false, .bool false, .bool false, .bool false, .bool false, .bool false, .bool false, .bool false, .bool false, .bool false, .bool false, .bool false, .bool false, .bool false, .bool false, .bool false, .bool false, .bool false, .bool false, .bool false, .bool false, .bool false, .bool false, .bool false, .bool false, .bool false, .bool false, .bool false, .bool false, .bool false, .bool false, .bool false, .bool false, .bool false, .bool false, .bool false, .bool false, .bool false, .bool false, .bool false, .bool false, .bool false, .bool false, .bool false, .bool false, .bool false, .bool false, .bool false, .bool false, .bool false, .bool false, .bool false, .bool false, .bool false, .bool false, .bool false, .bool false, .bool false, .bool false, .bool false, .bool false, .bool false, .bool false, .bool false, .bool false, .bool false, .bool false, .bool false, .bool false, .bool false, .bool false, .bool false, .bool false, .bool false, .bool false, .bool false, .bool false, .bool false, .bool false, .bool false, .bool false, .bool false, .bool false, .bool false, .bool false, .bool false, .bool false, .bool false, .bool false, .bool false, .bool false, .bool false, .bool false, .bool false, .bool false, .bool false, .bool false, .bool false]) := by kernel_rfl
theorem ti_87 : tyI Try.prog 87 = some (false, 1, 8, [.map none]) := by kernel_rfl
theorem fl_89_0 : flI Try.prog 89 0 = some 0 := by kernel_rfl
theorem fl_89_1 : flI Try.prog 89 1 = some 1 := by kernel_rfl
theorem fl_89_2 : flI Try.prog 89 2 = some 2 := by kernel_rfl
theorem ti_92 : tyI Try.prog 92 = some (true, 2, 16, [.int .i64 0, .int .i64 0]) := by kernel_rfl
theorem fl_92_0 : flI Try.prog 92 0 = some 0 := by kernel_rfl
theorem fl_92_1 : flI Try.prog 92 1 = some 1 := by kernel_rfl
theorem bd_7 : bodyI Try.prog 7 = true := by kernel_rfl
theorem bd_8 : bodyI Try.prog 8 = true := by kernel_rfl
theorem bd_16 : bodyI Try.prog 16 = true := by kernel_rfl
theorem bd_17 : bodyI Try.prog 17 = true := by kernel_rfl
theorem bd_18 : bodyI Try.prog 18 = true := by kernel_rfl
theorem bd_19 : bodyI Try.prog 19 = true := by kernel_rfl
theorem bd_20 : bodyI Try.prog 20 = true := by kernel_rfl
theorem bd_21 : bodyI Try.prog 21 = true := by kernel_rfl
theorem bd_22 : bodyI Try.prog 22 = true := by kernel_rfl
theorem bd_23 : bodyI Try.prog 23 = true := by kernel_rfl
theorem bd_24 : bodyI Try.prog 24 = true := by kernel_rfl
theorem bd_25 : bodyI Try.prog 25 = true := by kernel_rfl
theorem bd_36 : bodyI Try.prog 36 = true := by kernel_rfl
theorem bd_39 : bodyI Try.prog 39 = true := by kernel_rfl
theorem bd_40 : bodyI Try.prog 40 = true := by kernel_rfl
theorem bd_41 : bodyI Try.prog 41 = true := by kernel_rfl
theorem bd_42 : bodyI Try.prog 42 = true := by kernel_rfl
theorem bd_43 : bodyI Try.prog 43 = true := by kernel_rfl
theorem bd_44 : bodyI Try.prog 44 = true := by kernel_rfl
theorem bd_45 : bodyI Try.prog 45 = true := by kernel_rfl
theorem bd_58 : bodyI Try.prog 58 = true := by kernel_rfl
theorem bd_59 : bodyI Try.prog 59 = true := by kernel_rfl
theorem bd_60 : bodyI Try.prog 60 = true := by kernel_rfl
theorem bd_61 : bodyI Try.prog 61 = true := by kernel_rfl
theorem bd_62 : bodyI Try.prog 62 = true := by kernel_rfl
end Go.Proofs.Ytmgikmjmdppfmaa
end
namespace Go.Proofs.Ytmgikmjmdppfmaa
open Go.RowKit
set_option linter.unusedSimpArgs false
set_option linter.unusedVariables false


def waitsB (op : Int) : Bool := decide (op = 9 ∨ op = 11 ∨ op = 18)

end Go.Proofs.Ytmgikmjmdppfmaa
