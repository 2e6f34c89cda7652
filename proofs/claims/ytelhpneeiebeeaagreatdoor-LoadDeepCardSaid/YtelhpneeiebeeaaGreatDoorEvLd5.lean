/- LoadDeep: runs, part 5. -/
import Derived.Test.YtelhpneeiebeeaaGreatDoorEvLd0
set_option maxRecDepth 1000000
namespace Go.Ev
theorem ld_12_true (n : Int) : isTrue (run13 n true 12) = true := by kernel_rfl
theorem ld_12_false (n : Int) : isTrue (run13 n false 12) = true := by kernel_rfl
theorem ld_13_true (n : Int) : isTrue (run13 n true 13) = true := by kernel_rfl
theorem ld_13_false (n : Int) : isTrue (run13 n false 13) = true := by kernel_rfl
end Go.Ev
