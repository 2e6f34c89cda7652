/- LoadDeep: runs, part 2. -/
import Derived.Test.YtelhpneeiebeeaaGreatDoorEvLd0
set_option maxRecDepth 1000000
namespace Go.Ev
theorem ld_4_true (n : Int) : isTrue (run13 n true 4) = true := by kernel_rfl
theorem ld_4_false (n : Int) : isTrue (run13 n false 4) = true := by kernel_rfl
theorem ld_5_true (n : Int) : isTrue (run13 n true 5) = true := by kernel_rfl
theorem ld_5_false (n : Int) : isTrue (run13 n false 5) = true := by kernel_rfl
theorem ld_6_true (n : Int) : isTrue (run13 n true 6) = true := by kernel_rfl
theorem ld_6_false (n : Int) : isTrue (run13 n false 6) = true := by kernel_rfl
end Go.Ev
