/-
  DERIVED. GIVEN WITH THE SEED: THE CARDS: each row of YtihchehmkhnhaaaDoorRows.lean that lists a variable, with what it lists TIED to the program's text (the seventh form; the later family's looks); each row that meets fmt, with fmt's text TOLD by the authors' own Lean function (tested against real Go, not proved from fmt's source: count such statements apart). THE CARD IS WHAT COUNTS. Prove the row's statement (the work); the ties are given (YtihchehmkhnhaaaDoorTie.lean); close each card by the builder's one call (the guide's Derived/Test/ToyasCard.lean, 'card_holds'). Laid BY PROGRAM, IN A SANDBOX (cutbox-door.mjs). By AI agents, Wed Nov 11 2026. No macro, syntax, notation, axiom, sorry.
-/
import Derived.Test.YtihchehmkhnhaaaDoorRows
import GoSem.ClaimSeven
namespace Go.Proofs.YtihchehmkhnhaaaDoor
namespace Rows

/-- THE TIED CARD OF 'vinculumlaw16.DiffCost'. -/
def diffCostCard : Claim7 := { stood := { row := diffCostRow, standIns := [], harness := (true, "f7a2bfadd3a63c7a312bb5e730e470ef0f788ab6b91774cff4dd8e8fa6070a60"), looks := false }, kinds := [], alts := [], laidByText := true, laidKinds := [.data, .pinned], laidTests := true, laidLooks := .later }
def DiffCostCardSaid : Prop := Claim7.holds Tryd.pinned (.plain (OpenSpec.ofChange diffCostSpec)) diffCostCard

/-- THE TIED CARD OF 'vinculumlaw16.DiffLeast'. -/
def diffLeastCard : Claim7 := { stood := { row := diffLeastRow, standIns := [], harness := (true, "f7a2bfadd3a63c7a312bb5e730e470ef0f788ab6b91774cff4dd8e8fa6070a60"), looks := false }, kinds := [], alts := [], laidByText := true, laidKinds := [.data, .pinned], laidTests := true, laidLooks := .later }
def DiffLeastCardSaid : Prop := Claim7.holds Tryd.pinned (.plain (OpenSpec.ofChange diffLeastSpec)) diffLeastCard

/-- THE TIED CARD OF 'vinculumlaw16.DiffMetric'. -/
def diffMetricCard : Claim7 := { stood := { row := diffMetricRow, standIns := [], harness := (true, "f7a2bfadd3a63c7a312bb5e730e470ef0f788ab6b91774cff4dd8e8fa6070a60"), looks := false }, kinds := [], alts := [], laidByText := true, laidKinds := [.data, .pinned], laidTests := true, laidLooks := .later }
def DiffMetricCardSaid : Prop := Claim7.holds Tryd.pinned (.plain (OpenSpec.ofChange diffMetricSpec)) diffMetricCard

/-- THE TIED CARD OF 'vinculumlaw16.DiffWeight'. -/
def diffWeightCard : Claim7 := { stood := { row := diffWeightRow, standIns := [], harness := (true, "f7a2bfadd3a63c7a312bb5e730e470ef0f788ab6b91774cff4dd8e8fa6070a60"), looks := false }, kinds := [], alts := [], laidByText := true, laidKinds := [.data, .pinned], laidTests := true, laidLooks := .later }
def DiffWeightCardSaid : Prop := Claim7.holds Tryd.pinned (.plain (OpenSpec.ofChange diffWeightSpec)) diffWeightCard

/-- THE SECOND FORM's CARD OF 'vinculumlaw16.DiffCost'. -/
def diffCostUptoCard : Claim7 := { stood := { row := diffCostUptoRow, standIns := [], harness := (true, "f7a2bfadd3a63c7a312bb5e730e470ef0f788ab6b91774cff4dd8e8fa6070a60"), looks := false }, kinds := [], alts := [], laidByText := true, laidKinds := [.data, .pinned], laidTests := true, laidLooks := .later }
def DiffCostUptoCardSaid : Prop := Claim7.holds Tryd.pinned (.plain (OpenSpec.upto diffCostSpec)) diffCostUptoCard

/-- THE SECOND FORM's CARD OF 'vinculumlaw16.DiffLeast'. -/
def diffLeastUptoCard : Claim7 := { stood := { row := diffLeastUptoRow, standIns := [], harness := (true, "f7a2bfadd3a63c7a312bb5e730e470ef0f788ab6b91774cff4dd8e8fa6070a60"), looks := false }, kinds := [], alts := [], laidByText := true, laidKinds := [.data, .pinned], laidTests := true, laidLooks := .later }
def DiffLeastUptoCardSaid : Prop := Claim7.holds Tryd.pinned (.plain (OpenSpec.upto diffLeastSpec)) diffLeastUptoCard

/-- THE SECOND FORM's CARD OF 'vinculumlaw16.DiffMetric'. -/
def diffMetricUptoCard : Claim7 := { stood := { row := diffMetricUptoRow, standIns := [], harness := (true, "f7a2bfadd3a63c7a312bb5e730e470ef0f788ab6b91774cff4dd8e8fa6070a60"), looks := false }, kinds := [], alts := [], laidByText := true, laidKinds := [.data, .pinned], laidTests := true, laidLooks := .later }
def DiffMetricUptoCardSaid : Prop := Claim7.holds Tryd.pinned (.plain (OpenSpec.upto diffMetricSpec)) diffMetricUptoCard

/-- THE SECOND FORM's CARD OF 'vinculumlaw16.DiffWeight'. -/
def diffWeightUptoCard : Claim7 := { stood := { row := diffWeightUptoRow, standIns := [], harness := (true, "f7a2bfadd3a63c7a312bb5e730e470ef0f788ab6b91774cff4dd8e8fa6070a60"), looks := false }, kinds := [], alts := [], laidByText := true, laidKinds := [.data, .pinned], laidTests := true, laidLooks := .later }
def DiffWeightUptoCardSaid : Prop := Claim7.holds Tryd.pinned (.plain (OpenSpec.upto diffWeightSpec)) diffWeightUptoCard
end Rows
end Go.Proofs.YtihchehmkhnhaaaDoor
