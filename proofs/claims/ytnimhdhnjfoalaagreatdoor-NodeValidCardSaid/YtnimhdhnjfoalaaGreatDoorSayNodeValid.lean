/- The plain statement of the law NodeValid: over trees, lists and numbers alone. -/
import Derived.Test.YtnimhdhnjfoalaaGreatDoorAo
import Derived.Test.YtnimhdhnjfoalaaGreatDoorAx8
namespace Go.Proofs.YtnimhdhnjfoalaaGreatDoor.A
open Go.RowKit Go.Proofs.YtnimhdhnjfoalaaGreatDoorW.PrintWords Go.Proofs.YtnimhdhnjfoalaaGreatDoorW.PrintLast Go.Proofs.YtnimhdhnjfoalaaGreatDoorW.PrintMore
set_option linter.unusedVariables false
def vinculumlaw09_NodeValid.Pure : Prop := ∀ (x0 : S26) (h0 : Wf26 x0), ∃ k, vinculumlaw09_NodeValid.f k x0.f0 x0.f1 x0.f2 x0.f3 = some true
end Go.Proofs.YtnimhdhnjfoalaaGreatDoor.A
