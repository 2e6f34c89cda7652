/- facts of the frame -/
import Derived.Test.YtelhpneeiebeeaaGreatDoorCards
import Derived.Test.YtelhpneeiebeeaaGreatDoorTie
import Derived.SevenTiedAt
import Derived.ProofKit
set_option maxRecDepth 1000000
namespace Go.Proofs.YtelhpneeiebeeaaGreatDoor.loadDeep
open Go.ChangeShapes Go.WideShapes Go.ChangeAt Go.RowKit
theorem j0 : (Rows.loadDeepRow.wf (OpenSpec.ofChange Rows.loadDeepSpec)) = true := by kernel_rfl
theorem j1 : (laidOutB Tryz.prog) = true := by kernel_rfl
theorem j2 : (mapsRowed Tryz.prog) = true := by kernel_rfl
theorem j3 : (Tryz.f13.params.all (Tryz.prog.readableRec ·)) = true := by kernel_rfl
theorem j4 : (namedTie Tryz.prog Rows.loadDeepRow.named Rows.loadDeepSpec.vars) = true := by kernel_rfl
theorem j5 : ((Rows.loadDeepRow.stops == [])) = true := by kernel_rfl
theorem j6 : ((Tryz.prog.stops == [])) = true := by kernel_rfl
theorem j7 : ((Rows.loadDeepRow.knobs == [])) = true := by kernel_rfl
end Go.Proofs.YtelhpneeiebeeaaGreatDoor.loadDeep
