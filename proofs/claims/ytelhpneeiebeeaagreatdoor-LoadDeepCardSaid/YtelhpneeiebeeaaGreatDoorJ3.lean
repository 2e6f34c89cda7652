/- facts of the frame -/
import Derived.Test.YtelhpneeiebeeaaGreatDoorCards
import Derived.Test.YtelhpneeiebeeaaGreatDoorTie
import Derived.SevenTiedAt
import Derived.ProofKit
set_option maxRecDepth 1000000
namespace Go.Proofs.YtelhpneeiebeeaaGreatDoor.loadDeep
open Go.ChangeShapes Go.WideShapes Go.ChangeAt Go.RowKit
theorem j24 : (Tryz.prog.stopsHeard) = true := by kernel_rfl
theorem j25 : (Tryz.prog.mayEnter) = true := by kernel_rfl
theorem j26 : ((Rows.loadDeepRow.lifted == Tryz.prog.liftsFinal)) = true := by kernel_rfl
theorem j27 : ((Tryz.prog.make == some Rows.loadDeepRow.make)) = true := by kernel_rfl
theorem j28 : ((Rows.loadDeepRow.kinds == (if Rows.loadDeepRow.domain.isEmpty then [] else Tryz.f13.params.toList.map fun t => match Tryz.prog.underlying t with | some (.int k) => some k | _ => none))) = true := by kernel_rfl
theorem j29 : ((Rows.loadDeepRow.pinned == Rows.loadDeepRow.pinnedBy)) = true := by kernel_rfl
theorem j30 : ((Rows.loadDeepRow.veiled == (Tryz.f13.params.toList ++ Rows.loadDeepSpec.plain.varTypes Tryz.prog ++ Tryz.f13.resultTypes.toList).any (Tryz.prog.veiledRec ·))) = true := by kernel_rfl
theorem j31 : (Rows.loadDeepRow.veiledFits Tryz.prog Tryz.f13.params.toList (Tryz.f13.params.toList ++ Rows.loadDeepSpec.plain.varTypes Tryz.prog ++ Tryz.f13.resultTypes.toList)) = true := by kernel_rfl
end Go.Proofs.YtelhpneeiebeeaaGreatDoor.loadDeep
