/- LoadDeep: runs, part 3. -/
import Derived.Test.YtelhpneeiebeeaaGreatDoorEvLd0
set_option maxRecDepth 1000000
namespace Go.Ev
theorem ld_7_true (n : Int) : isTrue (run13 n true 7) = true := by kernel_rfl
theorem ld_7_false (n : Int) : isTrue (run13 n false 7) = true := by kernel_rfl
theorem ld_8_true (n : Int) : isTrue (run13 n true 8) = true := by kernel_rfl
theorem ld_8_false (n : Int) : isTrue (run13 n false 8) = true := by kernel_rfl
theorem ld_9_true (n : Int) : isTrue (run13 n true 9) = true := by kernel_rfl
theorem ld_9_false (n : Int) : isTrue (run13 n false 9) = true := by kernel_rfl
end Go.Ev
