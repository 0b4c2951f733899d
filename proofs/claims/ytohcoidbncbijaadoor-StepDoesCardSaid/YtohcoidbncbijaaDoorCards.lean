/-
  DERIVED. GIVEN WITH THE SEED: THE CARDS: each row of YtohcoidbncbijaaDoorRows.lean that lists a variable, with what it lists TIED to the program's text (the seventh form; the later family's looks); each row that meets fmt, with fmt's text TOLD by the authors' own Lean function (tested against real Go, not proved from fmt's source: count such statements apart). THE CARD IS WHAT COUNTS. Prove the row's statement (the work); the ties are given (YtohcoidbncbijaaDoorTie.lean); close each card by the builder's one call (the guide's Derived/Test/ToyasCard.lean, 'card_holds'). Laid BY PROGRAM, IN A SANDBOX (cutbox-door.mjs). By AI agents, Wed Nov 11 2026. No macro, syntax, notation, axiom, sorry.
-/
import Derived.Test.YtohcoidbncbijaaDoorRows
import GoSem.ClaimSeven
namespace Go.Proofs.YtohcoidbncbijaaDoor
namespace Rows

/-- THE TIED CARD OF 'brackenlaw17.PlanSteps'. -/
def planStepsCard : Claim7 := { stood := { row := planStepsRow, standIns := [], harness := (true, "976dc4b70abbf39700760d04c04fbfd44f6f72749ef933f314761116cca54319"), looks := false }, kinds := [], alts := [], laidByText := true, laidKinds := [.data, .data], laidTests := true, laidLooks := .later }
def PlanStepsCardSaid : Prop := Claim7.holds Tryd.pinned (.plain (OpenSpec.ofChange planStepsSpec)) planStepsCard

/-- THE TIED CARD OF 'brackenlaw17.PlanAsks'. -/
def planAsksCard : Claim7 := { stood := { row := planAsksRow, standIns := [], harness := (true, "976dc4b70abbf39700760d04c04fbfd44f6f72749ef933f314761116cca54319"), looks := false }, kinds := [], alts := [], laidByText := true, laidKinds := [.data, .data], laidTests := true, laidLooks := .later }
def PlanAsksCardSaid : Prop := Claim7.holds Tryd.pinned (.plain (OpenSpec.ofChange planAsksSpec)) planAsksCard

/-- THE TIED CARD OF 'brackenlaw17.PlanFirst'. -/
def planFirstCard : Claim7 := { stood := { row := planFirstRow, standIns := [], harness := (true, "976dc4b70abbf39700760d04c04fbfd44f6f72749ef933f314761116cca54319"), looks := false }, kinds := [], alts := [], laidByText := true, laidKinds := [.data, .data], laidTests := true, laidLooks := .later }
def PlanFirstCardSaid : Prop := Claim7.holds Tryd.pinned (.plain (OpenSpec.ofChange planFirstSpec)) planFirstCard

/-- THE TIED CARD OF 'brackenlaw17.PlanItems'. -/
def planItemsCard : Claim7 := { stood := { row := planItemsRow, standIns := [], harness := (true, "976dc4b70abbf39700760d04c04fbfd44f6f72749ef933f314761116cca54319"), looks := false }, kinds := [], alts := [], laidByText := true, laidKinds := [.data, .data], laidTests := true, laidLooks := .later }
def PlanItemsCardSaid : Prop := Claim7.holds Tryd.pinned (.plain (OpenSpec.ofChange planItemsSpec)) planItemsCard

/-- THE TIED CARD OF 'brackenlaw17.PlanDoes'. -/
def planDoesCard : Claim7 := { stood := { row := planDoesRow, standIns := [], harness := (true, "976dc4b70abbf39700760d04c04fbfd44f6f72749ef933f314761116cca54319"), looks := false }, kinds := [], alts := [], laidByText := true, laidKinds := [.data, .data], laidTests := true, laidLooks := .later }
def PlanDoesCardSaid : Prop := Claim7.holds Tryd.pinned (.plain (OpenSpec.ofChange planDoesSpec)) planDoesCard

/-- THE TIED CARD OF 'brackenlaw17.PlanFits'. -/
def planFitsCard : Claim7 := { stood := { row := planFitsRow, standIns := [], harness := (true, "976dc4b70abbf39700760d04c04fbfd44f6f72749ef933f314761116cca54319"), looks := false }, kinds := [], alts := [], laidByText := true, laidKinds := [.data, .data], laidTests := true, laidLooks := .later }
def PlanFitsCardSaid : Prop := Claim7.holds Tryd.pinned (.plain (OpenSpec.ofChange planFitsSpec)) planFitsCard

/-- THE TIED CARD OF 'brackenlaw16.StepSums'. -/
def stepSumsCard : Claim7 := { stood := { row := stepSumsRow, standIns := [], harness := (true, "976dc4b70abbf39700760d04c04fbfd44f6f72749ef933f314761116cca54319"), looks := false }, kinds := [], alts := [], laidByText := true, laidKinds := [.data, .data], laidTests := true, laidLooks := .later }
def StepSumsCardSaid : Prop := Claim7.holds Tryd.pinned (.plain (OpenSpec.ofChange stepSumsSpec)) stepSumsCard

/-- THE TIED CARD OF 'brackenlaw16.StepTables'. -/
def stepTablesCard : Claim7 := { stood := { row := stepTablesRow, standIns := [], harness := (true, "976dc4b70abbf39700760d04c04fbfd44f6f72749ef933f314761116cca54319"), looks := false }, kinds := [], alts := [], laidByText := true, laidKinds := [.data, .data], laidTests := true, laidLooks := .later }
def StepTablesCardSaid : Prop := Claim7.holds Tryd.pinned (.plain (OpenSpec.ofChange stepTablesSpec)) stepTablesCard

/-- THE TIED CARD OF 'brackenlaw16.StepTwist'. -/
def stepTwistCard : Claim7 := { stood := { row := stepTwistRow, standIns := [], harness := (true, "976dc4b70abbf39700760d04c04fbfd44f6f72749ef933f314761116cca54319"), looks := false }, kinds := [], alts := [], laidByText := true, laidKinds := [.data, .data], laidTests := true, laidLooks := .later }
def StepTwistCardSaid : Prop := Claim7.holds Tryd.pinned (.plain (OpenSpec.ofChange stepTwistSpec)) stepTwistCard

/-- THE TIED CARD OF 'brackenlaw16.StepTells'. -/
def stepTellsCard : Claim7 := { stood := { row := stepTellsRow, standIns := [], harness := (true, "976dc4b70abbf39700760d04c04fbfd44f6f72749ef933f314761116cca54319"), looks := false }, kinds := [], alts := [], laidByText := true, laidKinds := [.data, .data], laidTests := true, laidLooks := .later }
def StepTellsCardSaid : Prop := Claim7.holds Tryd.pinned (.plain (OpenSpec.ofChange stepTellsSpec)) stepTellsCard

/-- THE TIED CARD OF 'brackenlaw16.StepPlaces'. -/
def stepPlacesCard : Claim7 := { stood := { row := stepPlacesRow, standIns := [], harness := (true, "976dc4b70abbf39700760d04c04fbfd44f6f72749ef933f314761116cca54319"), looks := false }, kinds := [], alts := [], laidByText := true, laidKinds := [.data, .data], laidTests := true, laidLooks := .later }
def StepPlacesCardSaid : Prop := Claim7.holds Tryd.pinned (.plain (OpenSpec.ofChange stepPlacesSpec)) stepPlacesCard

/-- THE TIED CARD OF 'brackenlaw16.StepApart'. -/
def stepApartCard : Claim7 := { stood := { row := stepApartRow, standIns := [], harness := (true, "976dc4b70abbf39700760d04c04fbfd44f6f72749ef933f314761116cca54319"), looks := false }, kinds := [], alts := [], laidByText := true, laidKinds := [.data, .data], laidTests := true, laidLooks := .later }
def StepApartCardSaid : Prop := Claim7.holds Tryd.pinned (.plain (OpenSpec.ofChange stepApartSpec)) stepApartCard

/-- THE TIED CARD OF 'brackenlaw17.PlanBack'. -/
def planBackCard : Claim7 := { stood := { row := planBackRow, standIns := [], harness := (true, "976dc4b70abbf39700760d04c04fbfd44f6f72749ef933f314761116cca54319"), looks := false }, kinds := [], alts := [], laidByText := true, laidKinds := [.data, .data], laidTests := true, laidLooks := .later }
def PlanBackCardSaid : Prop := Claim7.holds Tryd.pinned (.plain (OpenSpec.ofChange planBackSpec)) planBackCard

/-- THE TIED CARD OF 'brackenlaw16.StepDoes'. -/
def stepDoesCard : Claim7 := { stood := { row := stepDoesRow, standIns := [], harness := (true, "976dc4b70abbf39700760d04c04fbfd44f6f72749ef933f314761116cca54319"), looks := false }, kinds := [], alts := [], laidByText := true, laidKinds := [.data, .data], laidTests := true, laidLooks := .later }
def StepDoesCardSaid : Prop := Claim7.holds Tryd.pinned (.plain (OpenSpec.ofChange stepDoesSpec)) stepDoesCard

/-- THE TIED CARD OF 'brackenlaw16.StepPredicts'. -/
def stepPredictsCard : Claim7 := { stood := { row := stepPredictsRow, standIns := [], harness := (true, "976dc4b70abbf39700760d04c04fbfd44f6f72749ef933f314761116cca54319"), looks := false }, kinds := [], alts := [], laidByText := true, laidKinds := [.data, .data], laidTests := true, laidLooks := .later }
def StepPredictsCardSaid : Prop := Claim7.holds Tryd.pinned (.plain (OpenSpec.ofChange stepPredictsSpec)) stepPredictsCard

/-- THE TIED CARD OF 'brackenlaw16.StepWhole'. -/
def stepWholeCard : Claim7 := { stood := { row := stepWholeRow, standIns := [], harness := (true, "976dc4b70abbf39700760d04c04fbfd44f6f72749ef933f314761116cca54319"), looks := false }, kinds := [], alts := [], laidByText := true, laidKinds := [.data, .data], laidTests := true, laidLooks := .later }
def StepWholeCardSaid : Prop := Claim7.holds Tryd.pinned (.plain (OpenSpec.ofChange stepWholeSpec)) stepWholeCard

/-- THE TIED CARD OF 'brackenlaw17.PlanWhole'. -/
def planWholeCard : Claim7 := { stood := { row := planWholeRow, standIns := [], harness := (true, "976dc4b70abbf39700760d04c04fbfd44f6f72749ef933f314761116cca54319"), looks := false }, kinds := [], alts := [], laidByText := true, laidKinds := [.data, .data], laidTests := true, laidLooks := .later }
def PlanWholeCardSaid : Prop := Claim7.holds Tryd.pinned (.plain (OpenSpec.ofChange planWholeSpec)) planWholeCard

/-- THE SECOND FORM's CARD OF 'brackenlaw17.PlanSteps'. -/
def planStepsUptoCard : Claim7 := { stood := { row := planStepsUptoRow, standIns := [], harness := (true, "976dc4b70abbf39700760d04c04fbfd44f6f72749ef933f314761116cca54319"), looks := false }, kinds := [], alts := [], laidByText := true, laidKinds := [.data, .data], laidTests := true, laidLooks := .later }
def PlanStepsUptoCardSaid : Prop := Claim7.holds Tryd.pinned (.plain (OpenSpec.upto planStepsSpec)) planStepsUptoCard

/-- THE SECOND FORM's CARD OF 'brackenlaw17.PlanAsks'. -/
def planAsksUptoCard : Claim7 := { stood := { row := planAsksUptoRow, standIns := [], harness := (true, "976dc4b70abbf39700760d04c04fbfd44f6f72749ef933f314761116cca54319"), looks := false }, kinds := [], alts := [], laidByText := true, laidKinds := [.data, .data], laidTests := true, laidLooks := .later }
def PlanAsksUptoCardSaid : Prop := Claim7.holds Tryd.pinned (.plain (OpenSpec.upto planAsksSpec)) planAsksUptoCard

/-- THE SECOND FORM's CARD OF 'brackenlaw17.PlanFirst'. -/
def planFirstUptoCard : Claim7 := { stood := { row := planFirstUptoRow, standIns := [], harness := (true, "976dc4b70abbf39700760d04c04fbfd44f6f72749ef933f314761116cca54319"), looks := false }, kinds := [], alts := [], laidByText := true, laidKinds := [.data, .data], laidTests := true, laidLooks := .later }
def PlanFirstUptoCardSaid : Prop := Claim7.holds Tryd.pinned (.plain (OpenSpec.upto planFirstSpec)) planFirstUptoCard

/-- THE SECOND FORM's CARD OF 'brackenlaw17.PlanItems'. -/
def planItemsUptoCard : Claim7 := { stood := { row := planItemsUptoRow, standIns := [], harness := (true, "976dc4b70abbf39700760d04c04fbfd44f6f72749ef933f314761116cca54319"), looks := false }, kinds := [], alts := [], laidByText := true, laidKinds := [.data, .data], laidTests := true, laidLooks := .later }
def PlanItemsUptoCardSaid : Prop := Claim7.holds Tryd.pinned (.plain (OpenSpec.upto planItemsSpec)) planItemsUptoCard

/-- THE SECOND FORM's CARD OF 'brackenlaw17.PlanDoes'. -/
def planDoesUptoCard : Claim7 := { stood := { row := planDoesUptoRow, standIns := [], harness := (true, "976dc4b70abbf39700760d04c04fbfd44f6f72749ef933f314761116cca54319"), looks := false }, kinds := [], alts := [], laidByText := true, laidKinds := [.data, .data], laidTests := true, laidLooks := .later }
def PlanDoesUptoCardSaid : Prop := Claim7.holds Tryd.pinned (.plain (OpenSpec.upto planDoesSpec)) planDoesUptoCard

/-- THE SECOND FORM's CARD OF 'brackenlaw17.PlanFits'. -/
def planFitsUptoCard : Claim7 := { stood := { row := planFitsUptoRow, standIns := [], harness := (true, "976dc4b70abbf39700760d04c04fbfd44f6f72749ef933f314761116cca54319"), looks := false }, kinds := [], alts := [], laidByText := true, laidKinds := [.data, .data], laidTests := true, laidLooks := .later }
def PlanFitsUptoCardSaid : Prop := Claim7.holds Tryd.pinned (.plain (OpenSpec.upto planFitsSpec)) planFitsUptoCard

/-- THE SECOND FORM's CARD OF 'brackenlaw16.StepSums'. -/
def stepSumsUptoCard : Claim7 := { stood := { row := stepSumsUptoRow, standIns := [], harness := (true, "976dc4b70abbf39700760d04c04fbfd44f6f72749ef933f314761116cca54319"), looks := false }, kinds := [], alts := [], laidByText := true, laidKinds := [.data, .data], laidTests := true, laidLooks := .later }
def StepSumsUptoCardSaid : Prop := Claim7.holds Tryd.pinned (.plain (OpenSpec.upto stepSumsSpec)) stepSumsUptoCard

/-- THE SECOND FORM's CARD OF 'brackenlaw16.StepTables'. -/
def stepTablesUptoCard : Claim7 := { stood := { row := stepTablesUptoRow, standIns := [], harness := (true, "976dc4b70abbf39700760d04c04fbfd44f6f72749ef933f314761116cca54319"), looks := false }, kinds := [], alts := [], laidByText := true, laidKinds := [.data, .data], laidTests := true, laidLooks := .later }
def StepTablesUptoCardSaid : Prop := Claim7.holds Tryd.pinned (.plain (OpenSpec.upto stepTablesSpec)) stepTablesUptoCard

/-- THE SECOND FORM's CARD OF 'brackenlaw16.StepTwist'. -/
def stepTwistUptoCard : Claim7 := { stood := { row := stepTwistUptoRow, standIns := [], harness := (true, "976dc4b70abbf39700760d04c04fbfd44f6f72749ef933f314761116cca54319"), looks := false }, kinds := [], alts := [], laidByText := true, laidKinds := [.data, .data], laidTests := true, laidLooks := .later }
def StepTwistUptoCardSaid : Prop := Claim7.holds Tryd.pinned (.plain (OpenSpec.upto stepTwistSpec)) stepTwistUptoCard

/-- THE SECOND FORM's CARD OF 'brackenlaw16.StepTells'. -/
def stepTellsUptoCard : Claim7 := { stood := { row := stepTellsUptoRow, standIns := [], harness := (true, "976dc4b70abbf39700760d04c04fbfd44f6f72749ef933f314761116cca54319"), looks := false }, kinds := [], alts := [], laidByText := true, laidKinds := [.data, .data], laidTests := true, laidLooks := .later }
def StepTellsUptoCardSaid : Prop := Claim7.holds Tryd.pinned (.plain (OpenSpec.upto stepTellsSpec)) stepTellsUptoCard

/-- THE SECOND FORM's CARD OF 'brackenlaw16.StepPlaces'. -/
def stepPlacesUptoCard : Claim7 := { stood := { row := stepPlacesUptoRow, standIns := [], harness := (true, "976dc4b70abbf39700760d04c04fbfd44f6f72749ef933f314761116cca54319"), looks := false }, kinds := [], alts := [], laidByText := true, laidKinds := [.data, .data], laidTests := true, laidLooks := .later }
def StepPlacesUptoCardSaid : Prop := Claim7.holds Tryd.pinned (.plain (OpenSpec.upto stepPlacesSpec)) stepPlacesUptoCard

/-- THE SECOND FORM's CARD OF 'brackenlaw16.StepApart'. -/
def stepApartUptoCard : Claim7 := { stood := { row := stepApartUptoRow, standIns := [], harness := (true, "976dc4b70abbf39700760d04c04fbfd44f6f72749ef933f314761116cca54319"), looks := false }, kinds := [], alts := [], laidByText := true, laidKinds := [.data, .data], laidTests := true, laidLooks := .later }
def StepApartUptoCardSaid : Prop := Claim7.holds Tryd.pinned (.plain (OpenSpec.upto stepApartSpec)) stepApartUptoCard

/-- THE SECOND FORM's CARD OF 'brackenlaw17.PlanBack'. -/
def planBackUptoCard : Claim7 := { stood := { row := planBackUptoRow, standIns := [], harness := (true, "976dc4b70abbf39700760d04c04fbfd44f6f72749ef933f314761116cca54319"), looks := false }, kinds := [], alts := [], laidByText := true, laidKinds := [.data, .data], laidTests := true, laidLooks := .later }
def PlanBackUptoCardSaid : Prop := Claim7.holds Tryd.pinned (.plain (OpenSpec.upto planBackSpec)) planBackUptoCard

/-- THE SECOND FORM's CARD OF 'brackenlaw16.StepDoes'. -/
def stepDoesUptoCard : Claim7 := { stood := { row := stepDoesUptoRow, standIns := [], harness := (true, "976dc4b70abbf39700760d04c04fbfd44f6f72749ef933f314761116cca54319"), looks := false }, kinds := [], alts := [], laidByText := true, laidKinds := [.data, .data], laidTests := true, laidLooks := .later }
def StepDoesUptoCardSaid : Prop := Claim7.holds Tryd.pinned (.plain (OpenSpec.upto stepDoesSpec)) stepDoesUptoCard

/-- THE SECOND FORM's CARD OF 'brackenlaw16.StepPredicts'. -/
def stepPredictsUptoCard : Claim7 := { stood := { row := stepPredictsUptoRow, standIns := [], harness := (true, "976dc4b70abbf39700760d04c04fbfd44f6f72749ef933f314761116cca54319"), looks := false }, kinds := [], alts := [], laidByText := true, laidKinds := [.data, .data], laidTests := true, laidLooks := .later }
def StepPredictsUptoCardSaid : Prop := Claim7.holds Tryd.pinned (.plain (OpenSpec.upto stepPredictsSpec)) stepPredictsUptoCard

/-- THE SECOND FORM's CARD OF 'brackenlaw16.StepWhole'. -/
def stepWholeUptoCard : Claim7 := { stood := { row := stepWholeUptoRow, standIns := [], harness := (true, "976dc4b70abbf39700760d04c04fbfd44f6f72749ef933f314761116cca54319"), looks := false }, kinds := [], alts := [], laidByText := true, laidKinds := [.data, .data], laidTests := true, laidLooks := .later }
def StepWholeUptoCardSaid : Prop := Claim7.holds Tryd.pinned (.plain (OpenSpec.upto stepWholeSpec)) stepWholeUptoCard

/-- THE SECOND FORM's CARD OF 'brackenlaw17.PlanWhole'. -/
def planWholeUptoCard : Claim7 := { stood := { row := planWholeUptoRow, standIns := [], harness := (true, "976dc4b70abbf39700760d04c04fbfd44f6f72749ef933f314761116cca54319"), looks := false }, kinds := [], alts := [], laidByText := true, laidKinds := [.data, .data], laidTests := true, laidLooks := .later }
def PlanWholeUptoCardSaid : Prop := Claim7.holds Tryd.pinned (.plain (OpenSpec.upto planWholeSpec)) planWholeUptoCard
end Rows
end Go.Proofs.YtohcoidbncbijaaDoor
