/- LoadDeep: runs, part 4. -/
import Derived.Test.YtelhpneeiebeeaaGreatDoorEvLd0
set_option maxRecDepth 1000000
namespace Go.Ev
theorem ld_10_true (n : Int) : isTrue (run13 n true 10) = true := by kernel_rfl
theorem ld_10_false (n : Int) : isTrue (run13 n false 10) = true := by kernel_rfl
theorem ld_11_true (n : Int) : isTrue (run13 n true 11) = true := by kernel_rfl
theorem ld_11_false (n : Int) : isTrue (run13 n false 11) = true := by kernel_rfl
end Go.Ev
