/- The plain statement of the law DiffWeight: over trees, lists and numbers alone. -/
import Derived.Test.YtihchehmkhnhaaaDoorAo
import Derived.Test.YtihchehmkhnhaaaDoorAx7
namespace Go.Proofs.YtihchehmkhnhaaaDoor.A
open Go.RowKit Go.Proofs.YtihchehmkhnhaaaDoorW.PrintWords Go.Proofs.YtihchehmkhnhaaaDoorW.PrintLast Go.Proofs.YtihchehmkhnhaaaDoorW.PrintMore
def vinculumlaw16_DiffWeight.Pure : Prop := ∀ (x0 : List (S37)) (h0 : x0.length ≤ maxLen ∧ ∀ a, a ∈ x0 → Wf37 a), ∃ k, vinculumlaw16_DiffWeight.f k x0 = some true
end Go.Proofs.YtihchehmkhnhaaaDoor.A
