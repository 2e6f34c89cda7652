/- facts of the frame -/
import Derived.Test.YtelhpneeiebeeaaGreatDoorCards
import Derived.Test.YtelhpneeiebeeaaGreatDoorTie
import Derived.SevenTiedAt
import Derived.ProofKit
set_option maxRecDepth 1000000
namespace Go.Proofs.YtelhpneeiebeeaaGreatDoor.loadDeep
open Go.ChangeShapes Go.WideShapes Go.ChangeAt Go.RowKit
theorem j8 : ((Tryz.prog.stopKnobs == [])) = true := by kernel_rfl
theorem j9 : ((Rows.loadDeepRow.inPlace == Tryz.prog.inPlace 13)) = true := by kernel_rfl
theorem j10 : ((Rows.loadDeepRow.unfollowed == Tryz.prog.unfollowed 13)) = true := by kernel_rfl
theorem j11 : ((Rows.loadDeepRow.recurses == Tryz.prog.recurses 13)) = true := by kernel_rfl
theorem j12 : ((Rows.loadDeepRow.named == Tryz.prog.varsNamed 13)) = true := by kernel_rfl
theorem j13 : ((Rows.loadDeepRow.maps == (Tryz.f13.params.toList ++ Rows.loadDeepSpec.plain.varTypes Tryz.prog).any (Tryz.prog.mapsRec ·))) = true := by kernel_rfl
theorem j14 : ((Rows.loadDeepRow.ifaces == (Tryz.f13.params.toList ++ Rows.loadDeepSpec.plain.varTypes Tryz.prog).any (Tryz.prog.ifacesRec ·))) = true := by kernel_rfl
theorem j15 : ((Rows.loadDeepRow.mapsOut == Tryz.prog.mapsAmong Tryz.f13.resultTypes.toList)) = true := by kernel_rfl
end Go.Proofs.YtelhpneeiebeeaaGreatDoor.loadDeep
