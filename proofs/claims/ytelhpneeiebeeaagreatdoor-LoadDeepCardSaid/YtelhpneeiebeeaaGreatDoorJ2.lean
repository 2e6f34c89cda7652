/- facts of the frame -/
import Derived.Test.YtelhpneeiebeeaaGreatDoorCards
import Derived.Test.YtelhpneeiebeeaaGreatDoorTie
import Derived.SevenTiedAt
import Derived.ProofKit
set_option maxRecDepth 1000000
namespace Go.Proofs.YtelhpneeiebeeaaGreatDoor.loadDeep
open Go.ChangeShapes Go.WideShapes Go.ChangeAt Go.RowKit
theorem j16 : ((Rows.loadDeepRow.loops == (Tryz.f13.params.toList ++ Rows.loadDeepSpec.plain.varTypes Tryz.prog).any (Tryz.prog.loopsFrom ·))) = true := by kernel_rfl
theorem j17 : ((Rows.loadDeepRow.wideKeys == (Tryz.f13.params.toList ++ Rows.loadDeepSpec.plain.varTypes Tryz.prog ++ Tryz.f13.resultTypes.toList).any (Tryz.prog.wideKeysFrom ·))) = true := by kernel_rfl
theorem j18 : (Rows.loadDeepSpec.vars.all (Tryz.prog.varReadable ·)) = true := by kernel_rfl
theorem j19 : (Tryz.f13.resultTypes.all (fun t => Tryz.prog.readableRec t && decide (t < Tryz.prog.types.size))) = true := by kernel_rfl
theorem j20 : ((Rows.loadDeepRow.ifacesOut == Tryz.f13.resultTypes.toList.any (Tryz.prog.ifacesRec ·))) = true := by kernel_rfl
theorem j21 : ((Rows.loadDeepRow.loopsOut == Tryz.f13.resultTypes.toList.any (Tryz.prog.loopsFrom ·))) = true := by kernel_rfl
theorem j22 : ((Rows.loadDeepRow.plainKeys == Tryz.prog.plainKeys)) = true := by kernel_rfl
theorem j23 : (Rows.loadDeepRow.shortTexts.isNone) = true := by kernel_rfl
end Go.Proofs.YtelhpneeiebeeaaGreatDoor.loadDeep
