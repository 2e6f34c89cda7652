/- LoadDeep: runs, part 1. -/
import Derived.Test.YtelhpneeiebeeaaGreatDoorEvLd0
set_option maxRecDepth 1000000
namespace Go.Ev
theorem ld_0_true (n : Int) : isTrue (run13 n true 0) = true := by kernel_rfl
theorem ld_0_false (n : Int) : isTrue (run13 n false 0) = true := by kernel_rfl
theorem ld_1_true (n : Int) : isTrue (run13 n true 1) = true := by kernel_rfl
theorem ld_1_false (n : Int) : isTrue (run13 n false 1) = true := by kernel_rfl
theorem ld_2_true (n : Int) : isTrue (run13 n true 2) = true := by kernel_rfl
theorem ld_2_false (n : Int) : isTrue (run13 n false 2) = true := by kernel_rfl
theorem ld_3_true (n : Int) : isTrue (run13 n true 3) = true := by kernel_rfl
theorem ld_3_false (n : Int) : isTrue (run13 n false 3) = true := by kernel_rfl
end Go.Ev
