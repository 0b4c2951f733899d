/-
  NARROWER THAN 'FOR EVERY INPUT', by the rows' own cells (each row's printed sentence says how): PlanSteps: laid · PlanAsks: laid · PlanFirst: laid · PlanItems: laid · PlanDoes: laid · PlanFits: laid · StepSums: laid · StepTables: laid · StepTwist: laid · StepTells: laid · StepPlaces: laid · StepApart: laid · PlanBack: laid · StepDoes: laid · StepPredicts: laid · StepWhole: laid · PlanWhole: laid.
  DERIVED. THE GIVEN ROWS OF THIS SEAT. 17 by the template 'for every input the law returns true; each argument reads behind the call as it read before'; 0 by the template 'total and deterministic' (their statements: YtohcoidbncbijaaDoorTotals.lean).
  GIVEN WITH THE SEED: the statements are not yours to turn. If you find one false, say at which input.
  Laid BY PROGRAM, IN A SANDBOX (cutbox-rows.mjs): the forced cells as the released guide's own fill.sh prints them over the translation d7baad3cd5e07a9a… (all of the seat's roots in one cut). By AI agents, Wed Nov 11 2026. No macro, syntax, notation, axiom, sorry.
-/
import Derived.Test.YtohcoidbncbijaaDoorChecked
import GoSem.Claim
import GoSem.ClaimJoined
import GoSem.ClaimMapViews
import Derived.JoinedTies
import Derived.KernelRfl
namespace Go.Proofs.YtohcoidbncbijaaDoor
/- THE CELL 'sum', in the pinned program and in every row, IS THE sha256 OF THE DUMP (.gsa) THAT YtohcoidbncbijaaDoorProg.lean LOADS. Nothing in Lean hashes anything: it is a label: what it is worth is what the hold of that sum in a sandbox is worth. -/
noncomputable def Tryd.pinned : Pinned := { name := "ytohcoidbncbijaadoor", sum := "d7baad3cd5e07a9ae32d44efbd7bacc4812d8816eddf2aa93d7a8e4d79ecaa94", checked := Tryd.checked }
namespace Rows
def none {H : Type} : Left H := { results := [], args := [] }

/- WHAT THE LISTED PACKAGE-LEVEL VARIABLES READ AS WHEN THE CALL BEGINS. Each datum BY PROGRAM (the guide's laid-datum.mjs) off the statement by which the dump's own 'gosem.cut.vars' lays the variable. In a bare row this is a premise. The card (YtohcoidbncbijaaDoorCards.lean) ties it to the program's text. -/
def laid_math_bits_deBruijn32tab {H : Type} : DataW H := .agg [.lit (.int .u8 0), .lit (.int .u8 1), .lit (.int .u8 28), .lit (.int .u8 2), .lit (.int .u8 29), .lit (.int .u8 14), .lit (.int .u8 24), .lit (.int .u8 3), .lit (.int .u8 30), .lit (.int .u8 22), .lit (.int .u8 20), .lit (.int .u8 15), .lit (.int .u8 25), .lit (.int .u8 17), .lit (.int .u8 4), .lit (.int .u8 8), .lit (.int .u8 31), .lit (.int .u8 27), .lit (.int .u8 13), .lit (.int .u8 23), .lit (.int .u8 21), .lit (.int .u8 19), .lit (.int .u8 16), .lit (.int .u8 7), .lit (.int .u8 26), .lit (.int .u8 12), .lit (.int .u8 18), .lit (.int .u8 6), .lit (.int .u8 11), .lit (.int .u8 5), .lit (.int .u8 10), .lit (.int .u8 9)]
def laid_math_bits_deBruijn64tab {H : Type} : DataW H := .agg [.lit (.int .u8 0), .lit (.int .u8 1), .lit (.int .u8 56), .lit (.int .u8 2), .lit (.int .u8 57), .lit (.int .u8 49), .lit (.int .u8 28), .lit (.int .u8 3), .lit (.int .u8 61), .lit (.int .u8 58), .lit (.int .u8 42), .lit (.int .u8 50), .lit (.int .u8 38), .lit (.int .u8 29), .lit (.int .u8 17), .lit (.int .u8 4), .lit (.int .u8 62), .lit (.int .u8 47), .lit (.int .u8 59), .lit (.int .u8 36), .lit (.int .u8 45), .lit (.int .u8 43), .lit (.int .u8 51), .lit (.int .u8 22), .lit (.int .u8 53), .lit (.int .u8 39), .lit (.int .u8 33), .lit (.int .u8 30), .lit (.int .u8 24), .lit (.int .u8 18), .lit (.int .u8 12), .lit (.int .u8 5), .lit (.int .u8 63), .lit (.int .u8 55), .lit (.int .u8 48), .lit (.int .u8 27), .lit (.int .u8 60), .lit (.int .u8 41), .lit (.int .u8 37), .lit (.int .u8 16), .lit (.int .u8 46), .lit (.int .u8 35), .lit (.int .u8 44), .lit (.int .u8 21), .lit (.int .u8 52), .lit (.int .u8 32), .lit (.int .u8 23), .lit (.int .u8 11), .lit (.int .u8 54), .lit (.int .u8 26), .lit (.int .u8 40), .lit (.int .u8 15), .lit (.int .u8 34), .lit (.int .u8 20), .lit (.int .u8 31), .lit (.int .u8 10), .lit (.int .u8 25), .lit (.int .u8 14), .lit (.int .u8 19), .lit (.int .u8 9), .lit (.int .u8 13), .lit (.int .u8 8), .lit (.int .u8 7), .lit (.int .u8 6)]

/-- 'brackenlaw17.PlanSteps': WHATEVER THE INPUT: true; the input reads as it did. -/
def planStepsSpec : ChangeSpec := { name := "planSteps", fn := fun _ => fun
  | [d1, d2, d3] => { results := [.lit (.bool true)], args := [d1, d2, d3] }
  | _ => none }
def planStepsRow : OpenClaim := { program := "ytohcoidbncbijaadoor", sum := "d7baad3cd5e07a9ae32d44efbd7bacc4812d8816eddf2aa93d7a8e4d79ecaa94", func := "bracken/brackenlaw17.PlanSteps", spec := "planSteps", inPlace := ["math/bits.Sub64", "math/bits.Add64"], unfollowed := true, recurses := true, named := ["math/bits.deBruijn32tab", "math/bits.deBruijn64tab", "math/bits.divideError", "math/bits.overflowError"], apart := false, laid := [("math/bits.deBruijn32tab", laid_math_bits_deBruijn32tab), ("math/bits.deBruijn64tab", laid_math_bits_deBruijn64tab)] }
def PlanStepsSaid : Prop := planStepsRow.holds Tryd.pinned (OpenSpec.ofChange planStepsSpec)

/-- ITS FALSE NEIGHBOUR: 'it returns false'. Refute it at one input. -/
def planStepsWrong : ChangeSpec := { name := "planSteps", fn := fun _ => fun
  | [d1, d2, d3] => { results := [.lit (.bool false)], args := [d1, d2, d3] }
  | _ => none }
def PlanStepsWrongFalsely : Prop := planStepsRow.holds Tryd.pinned (OpenSpec.ofChange planStepsWrong)

/-- 'brackenlaw17.PlanAsks': WHATEVER THE INPUT: true; the input reads as it did. -/
def planAsksSpec : ChangeSpec := { name := "planAsks", fn := fun _ => fun
  | [d1, d2] => { results := [.lit (.bool true)], args := [d1, d2] }
  | _ => none }
def planAsksRow : OpenClaim := { program := "ytohcoidbncbijaadoor", sum := "d7baad3cd5e07a9ae32d44efbd7bacc4812d8816eddf2aa93d7a8e4d79ecaa94", func := "bracken/brackenlaw17.PlanAsks", spec := "planAsks", inPlace := ["math/bits.Sub64", "math/bits.Add64"], unfollowed := true, recurses := true, named := ["math/bits.deBruijn32tab", "math/bits.deBruijn64tab", "math/bits.divideError", "math/bits.overflowError"], apart := false, laid := [("math/bits.deBruijn32tab", laid_math_bits_deBruijn32tab), ("math/bits.deBruijn64tab", laid_math_bits_deBruijn64tab)] }
def PlanAsksSaid : Prop := planAsksRow.holds Tryd.pinned (OpenSpec.ofChange planAsksSpec)

/-- ITS FALSE NEIGHBOUR: 'it returns false'. Refute it at one input. -/
def planAsksWrong : ChangeSpec := { name := "planAsks", fn := fun _ => fun
  | [d1, d2] => { results := [.lit (.bool false)], args := [d1, d2] }
  | _ => none }
def PlanAsksWrongFalsely : Prop := planAsksRow.holds Tryd.pinned (OpenSpec.ofChange planAsksWrong)

/-- 'brackenlaw17.PlanFirst': WHATEVER THE INPUT: true; the input reads as it did. -/
def planFirstSpec : ChangeSpec := { name := "planFirst", fn := fun _ => fun
  | [d1, d2, d3] => { results := [.lit (.bool true)], args := [d1, d2, d3] }
  | _ => none }
def planFirstRow : OpenClaim := { program := "ytohcoidbncbijaadoor", sum := "d7baad3cd5e07a9ae32d44efbd7bacc4812d8816eddf2aa93d7a8e4d79ecaa94", func := "bracken/brackenlaw17.PlanFirst", spec := "planFirst", inPlace := ["math/bits.Sub64", "math/bits.Add64"], unfollowed := true, recurses := true, named := ["math/bits.deBruijn32tab", "math/bits.deBruijn64tab", "math/bits.divideError", "math/bits.overflowError"], apart := false, laid := [("math/bits.deBruijn32tab", laid_math_bits_deBruijn32tab), ("math/bits.deBruijn64tab", laid_math_bits_deBruijn64tab)] }
def PlanFirstSaid : Prop := planFirstRow.holds Tryd.pinned (OpenSpec.ofChange planFirstSpec)

/-- ITS FALSE NEIGHBOUR: 'it returns false'. Refute it at one input. -/
def planFirstWrong : ChangeSpec := { name := "planFirst", fn := fun _ => fun
  | [d1, d2, d3] => { results := [.lit (.bool false)], args := [d1, d2, d3] }
  | _ => none }
def PlanFirstWrongFalsely : Prop := planFirstRow.holds Tryd.pinned (OpenSpec.ofChange planFirstWrong)

/-- 'brackenlaw17.PlanItems': WHATEVER THE INPUT: true; the input reads as it did. -/
def planItemsSpec : ChangeSpec := { name := "planItems", fn := fun _ => fun
  | [d] => { results := [.lit (.bool true)], args := [d] }
  | _ => none }
def planItemsRow : OpenClaim := { program := "ytohcoidbncbijaadoor", sum := "d7baad3cd5e07a9ae32d44efbd7bacc4812d8816eddf2aa93d7a8e4d79ecaa94", func := "bracken/brackenlaw17.PlanItems", spec := "planItems", inPlace := ["math/bits.Sub64", "math/bits.Add64"], unfollowed := true, recurses := true, named := ["math/bits.deBruijn32tab", "math/bits.deBruijn64tab", "math/bits.divideError", "math/bits.overflowError"], apart := false, laid := [("math/bits.deBruijn32tab", laid_math_bits_deBruijn32tab), ("math/bits.deBruijn64tab", laid_math_bits_deBruijn64tab)] }
def PlanItemsSaid : Prop := planItemsRow.holds Tryd.pinned (OpenSpec.ofChange planItemsSpec)

/-- ITS FALSE NEIGHBOUR: 'it returns false'. Refute it at one input. -/
def planItemsWrong : ChangeSpec := { name := "planItems", fn := fun _ => fun
  | [d] => { results := [.lit (.bool false)], args := [d] }
  | _ => none }
def PlanItemsWrongFalsely : Prop := planItemsRow.holds Tryd.pinned (OpenSpec.ofChange planItemsWrong)

/-- 'brackenlaw17.PlanDoes': WHATEVER THE INPUT: true; the input reads as it did. -/
def planDoesSpec : ChangeSpec := { name := "planDoes", fn := fun _ => fun
  | [d1, d2, d3] => { results := [.lit (.bool true)], args := [d1, d2, d3] }
  | _ => none }
def planDoesRow : OpenClaim := { program := "ytohcoidbncbijaadoor", sum := "d7baad3cd5e07a9ae32d44efbd7bacc4812d8816eddf2aa93d7a8e4d79ecaa94", func := "bracken/brackenlaw17.PlanDoes", spec := "planDoes", inPlace := ["math/bits.Sub64", "math/bits.Add64"], unfollowed := true, recurses := true, named := ["math/bits.deBruijn32tab", "math/bits.deBruijn64tab", "math/bits.divideError", "math/bits.overflowError"], apart := false, laid := [("math/bits.deBruijn32tab", laid_math_bits_deBruijn32tab), ("math/bits.deBruijn64tab", laid_math_bits_deBruijn64tab)] }
def PlanDoesSaid : Prop := planDoesRow.holds Tryd.pinned (OpenSpec.ofChange planDoesSpec)

/-- ITS FALSE NEIGHBOUR: 'it returns false'. Refute it at one input. -/
def planDoesWrong : ChangeSpec := { name := "planDoes", fn := fun _ => fun
  | [d1, d2, d3] => { results := [.lit (.bool false)], args := [d1, d2, d3] }
  | _ => none }
def PlanDoesWrongFalsely : Prop := planDoesRow.holds Tryd.pinned (OpenSpec.ofChange planDoesWrong)

/-- 'brackenlaw17.PlanFits': WHATEVER THE INPUT: true; the input reads as it did. -/
def planFitsSpec : ChangeSpec := { name := "planFits", fn := fun _ => fun
  | [d1, d2, d3] => { results := [.lit (.bool true)], args := [d1, d2, d3] }
  | _ => none }
def planFitsRow : OpenClaim := { program := "ytohcoidbncbijaadoor", sum := "d7baad3cd5e07a9ae32d44efbd7bacc4812d8816eddf2aa93d7a8e4d79ecaa94", func := "bracken/brackenlaw17.PlanFits", spec := "planFits", inPlace := ["math/bits.Sub64", "math/bits.Add64"], unfollowed := true, recurses := true, named := ["math/bits.deBruijn32tab", "math/bits.deBruijn64tab", "math/bits.divideError", "math/bits.overflowError"], apart := false, laid := [("math/bits.deBruijn32tab", laid_math_bits_deBruijn32tab), ("math/bits.deBruijn64tab", laid_math_bits_deBruijn64tab)] }
def PlanFitsSaid : Prop := planFitsRow.holds Tryd.pinned (OpenSpec.ofChange planFitsSpec)

/-- ITS FALSE NEIGHBOUR: 'it returns false'. Refute it at one input. -/
def planFitsWrong : ChangeSpec := { name := "planFits", fn := fun _ => fun
  | [d1, d2, d3] => { results := [.lit (.bool false)], args := [d1, d2, d3] }
  | _ => none }
def PlanFitsWrongFalsely : Prop := planFitsRow.holds Tryd.pinned (OpenSpec.ofChange planFitsWrong)

/-- 'brackenlaw16.StepSums': WHATEVER THE INPUT: true; the input reads as it did. -/
def stepSumsSpec : ChangeSpec := { name := "stepSums", fn := fun _ => fun
  | [d1, d2, d3, d4, d5, d6, d7] => { results := [.lit (.bool true)], args := [d1, d2, d3, d4, d5, d6, d7] }
  | _ => none }
def stepSumsRow : OpenClaim := { program := "ytohcoidbncbijaadoor", sum := "d7baad3cd5e07a9ae32d44efbd7bacc4812d8816eddf2aa93d7a8e4d79ecaa94", func := "bracken/brackenlaw16.StepSums", spec := "stepSums", inPlace := ["math/bits.Sub64", "math/bits.Add64"], unfollowed := true, recurses := true, named := ["math/bits.deBruijn32tab", "math/bits.deBruijn64tab", "math/bits.divideError", "math/bits.overflowError"], apart := false, laid := [("math/bits.deBruijn32tab", laid_math_bits_deBruijn32tab), ("math/bits.deBruijn64tab", laid_math_bits_deBruijn64tab)] }
def StepSumsSaid : Prop := stepSumsRow.holds Tryd.pinned (OpenSpec.ofChange stepSumsSpec)

/-- ITS FALSE NEIGHBOUR: 'it returns false'. Refute it at one input. -/
def stepSumsWrong : ChangeSpec := { name := "stepSums", fn := fun _ => fun
  | [d1, d2, d3, d4, d5, d6, d7] => { results := [.lit (.bool false)], args := [d1, d2, d3, d4, d5, d6, d7] }
  | _ => none }
def StepSumsWrongFalsely : Prop := stepSumsRow.holds Tryd.pinned (OpenSpec.ofChange stepSumsWrong)

/-- 'brackenlaw16.StepTables': WHATEVER THE INPUT: true; the input reads as it did. -/
def stepTablesSpec : ChangeSpec := { name := "stepTables", fn := fun _ => fun
  | [d1, d2, d3] => { results := [.lit (.bool true)], args := [d1, d2, d3] }
  | _ => none }
def stepTablesRow : OpenClaim := { program := "ytohcoidbncbijaadoor", sum := "d7baad3cd5e07a9ae32d44efbd7bacc4812d8816eddf2aa93d7a8e4d79ecaa94", func := "bracken/brackenlaw16.StepTables", spec := "stepTables", inPlace := ["math/bits.Sub64", "math/bits.Add64"], unfollowed := true, recurses := true, named := ["math/bits.deBruijn32tab", "math/bits.deBruijn64tab", "math/bits.divideError", "math/bits.overflowError"], apart := false, laid := [("math/bits.deBruijn32tab", laid_math_bits_deBruijn32tab), ("math/bits.deBruijn64tab", laid_math_bits_deBruijn64tab)] }
def StepTablesSaid : Prop := stepTablesRow.holds Tryd.pinned (OpenSpec.ofChange stepTablesSpec)

/-- ITS FALSE NEIGHBOUR: 'it returns false'. Refute it at one input. -/
def stepTablesWrong : ChangeSpec := { name := "stepTables", fn := fun _ => fun
  | [d1, d2, d3] => { results := [.lit (.bool false)], args := [d1, d2, d3] }
  | _ => none }
def StepTablesWrongFalsely : Prop := stepTablesRow.holds Tryd.pinned (OpenSpec.ofChange stepTablesWrong)

/-- 'brackenlaw16.StepTwist': WHATEVER THE INPUT: true; the input reads as it did. -/
def stepTwistSpec : ChangeSpec := { name := "stepTwist", fn := fun _ => fun
  | [d1, d2, d3, d4] => { results := [.lit (.bool true)], args := [d1, d2, d3, d4] }
  | _ => none }
def stepTwistRow : OpenClaim := { program := "ytohcoidbncbijaadoor", sum := "d7baad3cd5e07a9ae32d44efbd7bacc4812d8816eddf2aa93d7a8e4d79ecaa94", func := "bracken/brackenlaw16.StepTwist", spec := "stepTwist", inPlace := ["math/bits.Sub64", "math/bits.Add64"], unfollowed := true, recurses := true, named := ["math/bits.deBruijn32tab", "math/bits.deBruijn64tab", "math/bits.divideError", "math/bits.overflowError"], apart := false, laid := [("math/bits.deBruijn32tab", laid_math_bits_deBruijn32tab), ("math/bits.deBruijn64tab", laid_math_bits_deBruijn64tab)] }
def StepTwistSaid : Prop := stepTwistRow.holds Tryd.pinned (OpenSpec.ofChange stepTwistSpec)

/-- ITS FALSE NEIGHBOUR: 'it returns false'. Refute it at one input. -/
def stepTwistWrong : ChangeSpec := { name := "stepTwist", fn := fun _ => fun
  | [d1, d2, d3, d4] => { results := [.lit (.bool false)], args := [d1, d2, d3, d4] }
  | _ => none }
def StepTwistWrongFalsely : Prop := stepTwistRow.holds Tryd.pinned (OpenSpec.ofChange stepTwistWrong)

/-- 'brackenlaw16.StepTells': WHATEVER THE INPUT: true; the input reads as it did. -/
def stepTellsSpec : ChangeSpec := { name := "stepTells", fn := fun _ => fun
  | [d1, d2, d3, d4] => { results := [.lit (.bool true)], args := [d1, d2, d3, d4] }
  | _ => none }
def stepTellsRow : OpenClaim := { program := "ytohcoidbncbijaadoor", sum := "d7baad3cd5e07a9ae32d44efbd7bacc4812d8816eddf2aa93d7a8e4d79ecaa94", func := "bracken/brackenlaw16.StepTells", spec := "stepTells", inPlace := ["math/bits.Sub64", "math/bits.Add64"], unfollowed := true, recurses := true, named := ["math/bits.deBruijn32tab", "math/bits.deBruijn64tab", "math/bits.divideError", "math/bits.overflowError"], apart := false, laid := [("math/bits.deBruijn32tab", laid_math_bits_deBruijn32tab), ("math/bits.deBruijn64tab", laid_math_bits_deBruijn64tab)] }
def StepTellsSaid : Prop := stepTellsRow.holds Tryd.pinned (OpenSpec.ofChange stepTellsSpec)

/-- ITS FALSE NEIGHBOUR: 'it returns false'. Refute it at one input. -/
def stepTellsWrong : ChangeSpec := { name := "stepTells", fn := fun _ => fun
  | [d1, d2, d3, d4] => { results := [.lit (.bool false)], args := [d1, d2, d3, d4] }
  | _ => none }
def StepTellsWrongFalsely : Prop := stepTellsRow.holds Tryd.pinned (OpenSpec.ofChange stepTellsWrong)

/-- 'brackenlaw16.StepPlaces': WHATEVER THE INPUT: true; the input reads as it did. -/
def stepPlacesSpec : ChangeSpec := { name := "stepPlaces", fn := fun _ => fun
  | [d1, d2, d3, d4] => { results := [.lit (.bool true)], args := [d1, d2, d3, d4] }
  | _ => none }
def stepPlacesRow : OpenClaim := { program := "ytohcoidbncbijaadoor", sum := "d7baad3cd5e07a9ae32d44efbd7bacc4812d8816eddf2aa93d7a8e4d79ecaa94", func := "bracken/brackenlaw16.StepPlaces", spec := "stepPlaces", inPlace := ["math/bits.Sub64", "math/bits.Add64"], unfollowed := true, recurses := true, named := ["math/bits.deBruijn32tab", "math/bits.deBruijn64tab", "math/bits.divideError", "math/bits.overflowError"], apart := false, laid := [("math/bits.deBruijn32tab", laid_math_bits_deBruijn32tab), ("math/bits.deBruijn64tab", laid_math_bits_deBruijn64tab)] }
def StepPlacesSaid : Prop := stepPlacesRow.holds Tryd.pinned (OpenSpec.ofChange stepPlacesSpec)

/-- ITS FALSE NEIGHBOUR: 'it returns false'. Refute it at one input. -/
def stepPlacesWrong : ChangeSpec := { name := "stepPlaces", fn := fun _ => fun
  | [d1, d2, d3, d4] => { results := [.lit (.bool false)], args := [d1, d2, d3, d4] }
  | _ => none }
def StepPlacesWrongFalsely : Prop := stepPlacesRow.holds Tryd.pinned (OpenSpec.ofChange stepPlacesWrong)

/-- 'brackenlaw16.StepApart': WHATEVER THE INPUT: true; the input reads as it did. -/
def stepApartSpec : ChangeSpec := { name := "stepApart", fn := fun _ => fun
  | [d1, d2, d3, d4, d5, d6, d7] => { results := [.lit (.bool true)], args := [d1, d2, d3, d4, d5, d6, d7] }
  | _ => none }
def stepApartRow : OpenClaim := { program := "ytohcoidbncbijaadoor", sum := "d7baad3cd5e07a9ae32d44efbd7bacc4812d8816eddf2aa93d7a8e4d79ecaa94", func := "bracken/brackenlaw16.StepApart", spec := "stepApart", inPlace := ["math/bits.Sub64", "math/bits.Add64"], unfollowed := true, recurses := true, named := ["math/bits.deBruijn32tab", "math/bits.deBruijn64tab", "math/bits.divideError", "math/bits.overflowError"], apart := false, laid := [("math/bits.deBruijn32tab", laid_math_bits_deBruijn32tab), ("math/bits.deBruijn64tab", laid_math_bits_deBruijn64tab)] }
def StepApartSaid : Prop := stepApartRow.holds Tryd.pinned (OpenSpec.ofChange stepApartSpec)

/-- ITS FALSE NEIGHBOUR: 'it returns false'. Refute it at one input. -/
def stepApartWrong : ChangeSpec := { name := "stepApart", fn := fun _ => fun
  | [d1, d2, d3, d4, d5, d6, d7] => { results := [.lit (.bool false)], args := [d1, d2, d3, d4, d5, d6, d7] }
  | _ => none }
def StepApartWrongFalsely : Prop := stepApartRow.holds Tryd.pinned (OpenSpec.ofChange stepApartWrong)

/-- 'brackenlaw17.PlanBack': WHATEVER THE INPUT: true; the input reads as it did. -/
def planBackSpec : ChangeSpec := { name := "planBack", fn := fun _ => fun
  | [d1, d2, d3, d4] => { results := [.lit (.bool true)], args := [d1, d2, d3, d4] }
  | _ => none }
def planBackRow : OpenClaim := { program := "ytohcoidbncbijaadoor", sum := "d7baad3cd5e07a9ae32d44efbd7bacc4812d8816eddf2aa93d7a8e4d79ecaa94", func := "bracken/brackenlaw17.PlanBack", spec := "planBack", inPlace := ["math/bits.Sub64", "math/bits.Add64"], unfollowed := true, recurses := true, named := ["math/bits.deBruijn32tab", "math/bits.deBruijn64tab", "math/bits.divideError", "math/bits.overflowError"], apart := false, laid := [("math/bits.deBruijn32tab", laid_math_bits_deBruijn32tab), ("math/bits.deBruijn64tab", laid_math_bits_deBruijn64tab)] }
def PlanBackSaid : Prop := planBackRow.holds Tryd.pinned (OpenSpec.ofChange planBackSpec)

/-- ITS FALSE NEIGHBOUR: 'it returns false'. Refute it at one input. -/
def planBackWrong : ChangeSpec := { name := "planBack", fn := fun _ => fun
  | [d1, d2, d3, d4] => { results := [.lit (.bool false)], args := [d1, d2, d3, d4] }
  | _ => none }
def PlanBackWrongFalsely : Prop := planBackRow.holds Tryd.pinned (OpenSpec.ofChange planBackWrong)

/-- 'brackenlaw16.StepDoes': WHATEVER THE INPUT: true; the input reads as it did. -/
def stepDoesSpec : ChangeSpec := { name := "stepDoes", fn := fun _ => fun
  | [d1, d2, d3, d4, d5] => { results := [.lit (.bool true)], args := [d1, d2, d3, d4, d5] }
  | _ => none }
def stepDoesRow : OpenClaim := { program := "ytohcoidbncbijaadoor", sum := "d7baad3cd5e07a9ae32d44efbd7bacc4812d8816eddf2aa93d7a8e4d79ecaa94", func := "bracken/brackenlaw16.StepDoes", spec := "stepDoes", inPlace := ["math/bits.Sub64", "math/bits.Add64"], unfollowed := true, recurses := true, named := ["math/bits.deBruijn32tab", "math/bits.deBruijn64tab", "math/bits.divideError", "math/bits.overflowError"], apart := false, laid := [("math/bits.deBruijn32tab", laid_math_bits_deBruijn32tab), ("math/bits.deBruijn64tab", laid_math_bits_deBruijn64tab)] }
def StepDoesSaid : Prop := stepDoesRow.holds Tryd.pinned (OpenSpec.ofChange stepDoesSpec)

/-- ITS FALSE NEIGHBOUR: 'it returns false'. Refute it at one input. -/
def stepDoesWrong : ChangeSpec := { name := "stepDoes", fn := fun _ => fun
  | [d1, d2, d3, d4, d5] => { results := [.lit (.bool false)], args := [d1, d2, d3, d4, d5] }
  | _ => none }
def StepDoesWrongFalsely : Prop := stepDoesRow.holds Tryd.pinned (OpenSpec.ofChange stepDoesWrong)

/-- 'brackenlaw16.StepPredicts': WHATEVER THE INPUT: true; the input reads as it did. -/
def stepPredictsSpec : ChangeSpec := { name := "stepPredicts", fn := fun _ => fun
  | [d1, d2, d3, d4, d5] => { results := [.lit (.bool true)], args := [d1, d2, d3, d4, d5] }
  | _ => none }
def stepPredictsRow : OpenClaim := { program := "ytohcoidbncbijaadoor", sum := "d7baad3cd5e07a9ae32d44efbd7bacc4812d8816eddf2aa93d7a8e4d79ecaa94", func := "bracken/brackenlaw16.StepPredicts", spec := "stepPredicts", inPlace := ["math/bits.Sub64", "math/bits.Add64"], unfollowed := true, recurses := true, named := ["math/bits.deBruijn32tab", "math/bits.deBruijn64tab", "math/bits.divideError", "math/bits.overflowError"], apart := false, laid := [("math/bits.deBruijn32tab", laid_math_bits_deBruijn32tab), ("math/bits.deBruijn64tab", laid_math_bits_deBruijn64tab)] }
def StepPredictsSaid : Prop := stepPredictsRow.holds Tryd.pinned (OpenSpec.ofChange stepPredictsSpec)

/-- ITS FALSE NEIGHBOUR: 'it returns false'. Refute it at one input. -/
def stepPredictsWrong : ChangeSpec := { name := "stepPredicts", fn := fun _ => fun
  | [d1, d2, d3, d4, d5] => { results := [.lit (.bool false)], args := [d1, d2, d3, d4, d5] }
  | _ => none }
def StepPredictsWrongFalsely : Prop := stepPredictsRow.holds Tryd.pinned (OpenSpec.ofChange stepPredictsWrong)

/-- 'brackenlaw16.StepWhole': WHATEVER THE INPUT: true; the input reads as it did. -/
def stepWholeSpec : ChangeSpec := { name := "stepWhole", fn := fun _ => fun
  | [d1, d2, d3, d4, d5] => { results := [.lit (.bool true)], args := [d1, d2, d3, d4, d5] }
  | _ => none }
def stepWholeRow : OpenClaim := { program := "ytohcoidbncbijaadoor", sum := "d7baad3cd5e07a9ae32d44efbd7bacc4812d8816eddf2aa93d7a8e4d79ecaa94", func := "bracken/brackenlaw16.StepWhole", spec := "stepWhole", inPlace := ["math/bits.Sub64", "math/bits.Add64"], unfollowed := true, recurses := true, named := ["math/bits.deBruijn32tab", "math/bits.deBruijn64tab", "math/bits.divideError", "math/bits.overflowError"], apart := false, laid := [("math/bits.deBruijn32tab", laid_math_bits_deBruijn32tab), ("math/bits.deBruijn64tab", laid_math_bits_deBruijn64tab)] }
def StepWholeSaid : Prop := stepWholeRow.holds Tryd.pinned (OpenSpec.ofChange stepWholeSpec)

/-- ITS FALSE NEIGHBOUR: 'it returns false'. Refute it at one input. -/
def stepWholeWrong : ChangeSpec := { name := "stepWhole", fn := fun _ => fun
  | [d1, d2, d3, d4, d5] => { results := [.lit (.bool false)], args := [d1, d2, d3, d4, d5] }
  | _ => none }
def StepWholeWrongFalsely : Prop := stepWholeRow.holds Tryd.pinned (OpenSpec.ofChange stepWholeWrong)

/-- 'brackenlaw17.PlanWhole': WHATEVER THE INPUT: true; the input reads as it did. -/
def planWholeSpec : ChangeSpec := { name := "planWhole", fn := fun _ => fun
  | [d1, d2, d3, d4] => { results := [.lit (.bool true)], args := [d1, d2, d3, d4] }
  | _ => none }
def planWholeRow : OpenClaim := { program := "ytohcoidbncbijaadoor", sum := "d7baad3cd5e07a9ae32d44efbd7bacc4812d8816eddf2aa93d7a8e4d79ecaa94", func := "bracken/brackenlaw17.PlanWhole", spec := "planWhole", inPlace := ["math/bits.Sub64", "math/bits.Add64"], unfollowed := true, recurses := true, named := ["math/bits.deBruijn32tab", "math/bits.deBruijn64tab", "math/bits.divideError", "math/bits.overflowError"], apart := false, laid := [("math/bits.deBruijn32tab", laid_math_bits_deBruijn32tab), ("math/bits.deBruijn64tab", laid_math_bits_deBruijn64tab)] }
def PlanWholeSaid : Prop := planWholeRow.holds Tryd.pinned (OpenSpec.ofChange planWholeSpec)

/-- ITS FALSE NEIGHBOUR: 'it returns false'. Refute it at one input. -/
def planWholeWrong : ChangeSpec := { name := "planWhole", fn := fun _ => fun
  | [d1, d2, d3, d4] => { results := [.lit (.bool false)], args := [d1, d2, d3, d4] }
  | _ => none }
def PlanWholeWrongFalsely : Prop := planWholeRow.holds Tryd.pinned (OpenSpec.ofChange planWholeWrong)

/- THE SECOND FORM. 'bulk': how many values and letters a reading holds, each counted each time it is reached (what is shared counts as often as it is met; a slice's spare places count too). A statement '..UptoSaid' is the law's where the arguments, and the package variables that the reading takes, are together of bulk at most 1048576: NARROWER than '..Said'. Prove '..Said' where nothing that the law and all that it calls make is longer than what came in: it says more and counts as full. Else prove '..UptoSaid'. A law counts once. -/
mutual
def uptoBulk {H : Type} : DataW H → Nat
  | .lit (.string bytes) => bytes.length + 1
  | .lit _ => 1
  | .nil => 1
  | .ptr d => uptoBulk d + 1
  | .slice elems spare => uptoBulkAll elems + uptoBulkAll spare + 1
  | .agg parts => uptoBulkAll parts + 1
  | .iface _ d => uptoBulk d + 1
  | .map entries => uptoBulkEntries entries + 1
  | .held _ => 1
def uptoBulkAll {H : Type} : List (DataW H) → Nat
  | [] => 0
  | d :: r => uptoBulk d + uptoBulkAll r
def uptoBulkEntries {H : Type} : List (Lit × DataW H) → Nat
  | [] => 0
  | x :: r => uptoBulkEntry x + uptoBulkEntries r
def uptoBulkEntry {H : Type} : Lit × DataW H → Nat
  | (.string bytes, d) => bytes.length + uptoBulk d + 1
  | (_, d) => uptoBulk d + 1
 end
def uptoSmall : (H : Type) → List (DataW H) → Bool := fun _ ds => decide (uptoBulkAll ds ≤ 1048576)
def OpenSpec.upto (s : _root_.Go.ChangeSpec) : _root_.Go.OpenSpec := { _root_.Go.OpenSpec.ofChange s with cond := some uptoSmall }

/-- 'brackenlaw17.PlanSteps', WHERE WHAT IT READS IS OF BULK AT MOST 1048576: true; the input reads as it did. -/
def planStepsUptoRow : OpenClaim := { program := "ytohcoidbncbijaadoor", sum := "d7baad3cd5e07a9ae32d44efbd7bacc4812d8816eddf2aa93d7a8e4d79ecaa94", func := "bracken/brackenlaw17.PlanSteps", spec := "planSteps", inPlace := ["math/bits.Sub64", "math/bits.Add64"], unfollowed := true, recurses := true, named := ["math/bits.deBruijn32tab", "math/bits.deBruijn64tab", "math/bits.divideError", "math/bits.overflowError"], apart := false, laid := [("math/bits.deBruijn32tab", laid_math_bits_deBruijn32tab), ("math/bits.deBruijn64tab", laid_math_bits_deBruijn64tab)], narrowed := true }
def PlanStepsUptoSaid : Prop := planStepsUptoRow.holds Tryd.pinned (OpenSpec.upto planStepsSpec)

/-- 'brackenlaw17.PlanAsks', WHERE WHAT IT READS IS OF BULK AT MOST 1048576: true; the input reads as it did. -/
def planAsksUptoRow : OpenClaim := { program := "ytohcoidbncbijaadoor", sum := "d7baad3cd5e07a9ae32d44efbd7bacc4812d8816eddf2aa93d7a8e4d79ecaa94", func := "bracken/brackenlaw17.PlanAsks", spec := "planAsks", inPlace := ["math/bits.Sub64", "math/bits.Add64"], unfollowed := true, recurses := true, named := ["math/bits.deBruijn32tab", "math/bits.deBruijn64tab", "math/bits.divideError", "math/bits.overflowError"], apart := false, laid := [("math/bits.deBruijn32tab", laid_math_bits_deBruijn32tab), ("math/bits.deBruijn64tab", laid_math_bits_deBruijn64tab)], narrowed := true }
def PlanAsksUptoSaid : Prop := planAsksUptoRow.holds Tryd.pinned (OpenSpec.upto planAsksSpec)

/-- 'brackenlaw17.PlanFirst', WHERE WHAT IT READS IS OF BULK AT MOST 1048576: true; the input reads as it did. -/
def planFirstUptoRow : OpenClaim := { program := "ytohcoidbncbijaadoor", sum := "d7baad3cd5e07a9ae32d44efbd7bacc4812d8816eddf2aa93d7a8e4d79ecaa94", func := "bracken/brackenlaw17.PlanFirst", spec := "planFirst", inPlace := ["math/bits.Sub64", "math/bits.Add64"], unfollowed := true, recurses := true, named := ["math/bits.deBruijn32tab", "math/bits.deBruijn64tab", "math/bits.divideError", "math/bits.overflowError"], apart := false, laid := [("math/bits.deBruijn32tab", laid_math_bits_deBruijn32tab), ("math/bits.deBruijn64tab", laid_math_bits_deBruijn64tab)], narrowed := true }
def PlanFirstUptoSaid : Prop := planFirstUptoRow.holds Tryd.pinned (OpenSpec.upto planFirstSpec)

/-- 'brackenlaw17.PlanItems', WHERE WHAT IT READS IS OF BULK AT MOST 1048576: true; the input reads as it did. -/
def planItemsUptoRow : OpenClaim := { program := "ytohcoidbncbijaadoor", sum := "d7baad3cd5e07a9ae32d44efbd7bacc4812d8816eddf2aa93d7a8e4d79ecaa94", func := "bracken/brackenlaw17.PlanItems", spec := "planItems", inPlace := ["math/bits.Sub64", "math/bits.Add64"], unfollowed := true, recurses := true, named := ["math/bits.deBruijn32tab", "math/bits.deBruijn64tab", "math/bits.divideError", "math/bits.overflowError"], apart := false, laid := [("math/bits.deBruijn32tab", laid_math_bits_deBruijn32tab), ("math/bits.deBruijn64tab", laid_math_bits_deBruijn64tab)], narrowed := true }
def PlanItemsUptoSaid : Prop := planItemsUptoRow.holds Tryd.pinned (OpenSpec.upto planItemsSpec)

/-- 'brackenlaw17.PlanDoes', WHERE WHAT IT READS IS OF BULK AT MOST 1048576: true; the input reads as it did. -/
def planDoesUptoRow : OpenClaim := { program := "ytohcoidbncbijaadoor", sum := "d7baad3cd5e07a9ae32d44efbd7bacc4812d8816eddf2aa93d7a8e4d79ecaa94", func := "bracken/brackenlaw17.PlanDoes", spec := "planDoes", inPlace := ["math/bits.Sub64", "math/bits.Add64"], unfollowed := true, recurses := true, named := ["math/bits.deBruijn32tab", "math/bits.deBruijn64tab", "math/bits.divideError", "math/bits.overflowError"], apart := false, laid := [("math/bits.deBruijn32tab", laid_math_bits_deBruijn32tab), ("math/bits.deBruijn64tab", laid_math_bits_deBruijn64tab)], narrowed := true }
def PlanDoesUptoSaid : Prop := planDoesUptoRow.holds Tryd.pinned (OpenSpec.upto planDoesSpec)

/-- 'brackenlaw17.PlanFits', WHERE WHAT IT READS IS OF BULK AT MOST 1048576: true; the input reads as it did. -/
def planFitsUptoRow : OpenClaim := { program := "ytohcoidbncbijaadoor", sum := "d7baad3cd5e07a9ae32d44efbd7bacc4812d8816eddf2aa93d7a8e4d79ecaa94", func := "bracken/brackenlaw17.PlanFits", spec := "planFits", inPlace := ["math/bits.Sub64", "math/bits.Add64"], unfollowed := true, recurses := true, named := ["math/bits.deBruijn32tab", "math/bits.deBruijn64tab", "math/bits.divideError", "math/bits.overflowError"], apart := false, laid := [("math/bits.deBruijn32tab", laid_math_bits_deBruijn32tab), ("math/bits.deBruijn64tab", laid_math_bits_deBruijn64tab)], narrowed := true }
def PlanFitsUptoSaid : Prop := planFitsUptoRow.holds Tryd.pinned (OpenSpec.upto planFitsSpec)

/-- 'brackenlaw16.StepSums', WHERE WHAT IT READS IS OF BULK AT MOST 1048576: true; the input reads as it did. -/
def stepSumsUptoRow : OpenClaim := { program := "ytohcoidbncbijaadoor", sum := "d7baad3cd5e07a9ae32d44efbd7bacc4812d8816eddf2aa93d7a8e4d79ecaa94", func := "bracken/brackenlaw16.StepSums", spec := "stepSums", inPlace := ["math/bits.Sub64", "math/bits.Add64"], unfollowed := true, recurses := true, named := ["math/bits.deBruijn32tab", "math/bits.deBruijn64tab", "math/bits.divideError", "math/bits.overflowError"], apart := false, laid := [("math/bits.deBruijn32tab", laid_math_bits_deBruijn32tab), ("math/bits.deBruijn64tab", laid_math_bits_deBruijn64tab)], narrowed := true }
def StepSumsUptoSaid : Prop := stepSumsUptoRow.holds Tryd.pinned (OpenSpec.upto stepSumsSpec)

/-- 'brackenlaw16.StepTables', WHERE WHAT IT READS IS OF BULK AT MOST 1048576: true; the input reads as it did. -/
def stepTablesUptoRow : OpenClaim := { program := "ytohcoidbncbijaadoor", sum := "d7baad3cd5e07a9ae32d44efbd7bacc4812d8816eddf2aa93d7a8e4d79ecaa94", func := "bracken/brackenlaw16.StepTables", spec := "stepTables", inPlace := ["math/bits.Sub64", "math/bits.Add64"], unfollowed := true, recurses := true, named := ["math/bits.deBruijn32tab", "math/bits.deBruijn64tab", "math/bits.divideError", "math/bits.overflowError"], apart := false, laid := [("math/bits.deBruijn32tab", laid_math_bits_deBruijn32tab), ("math/bits.deBruijn64tab", laid_math_bits_deBruijn64tab)], narrowed := true }
def StepTablesUptoSaid : Prop := stepTablesUptoRow.holds Tryd.pinned (OpenSpec.upto stepTablesSpec)

/-- 'brackenlaw16.StepTwist', WHERE WHAT IT READS IS OF BULK AT MOST 1048576: true; the input reads as it did. -/
def stepTwistUptoRow : OpenClaim := { program := "ytohcoidbncbijaadoor", sum := "d7baad3cd5e07a9ae32d44efbd7bacc4812d8816eddf2aa93d7a8e4d79ecaa94", func := "bracken/brackenlaw16.StepTwist", spec := "stepTwist", inPlace := ["math/bits.Sub64", "math/bits.Add64"], unfollowed := true, recurses := true, named := ["math/bits.deBruijn32tab", "math/bits.deBruijn64tab", "math/bits.divideError", "math/bits.overflowError"], apart := false, laid := [("math/bits.deBruijn32tab", laid_math_bits_deBruijn32tab), ("math/bits.deBruijn64tab", laid_math_bits_deBruijn64tab)], narrowed := true }
def StepTwistUptoSaid : Prop := stepTwistUptoRow.holds Tryd.pinned (OpenSpec.upto stepTwistSpec)

/-- 'brackenlaw16.StepTells', WHERE WHAT IT READS IS OF BULK AT MOST 1048576: true; the input reads as it did. -/
def stepTellsUptoRow : OpenClaim := { program := "ytohcoidbncbijaadoor", sum := "d7baad3cd5e07a9ae32d44efbd7bacc4812d8816eddf2aa93d7a8e4d79ecaa94", func := "bracken/brackenlaw16.StepTells", spec := "stepTells", inPlace := ["math/bits.Sub64", "math/bits.Add64"], unfollowed := true, recurses := true, named := ["math/bits.deBruijn32tab", "math/bits.deBruijn64tab", "math/bits.divideError", "math/bits.overflowError"], apart := false, laid := [("math/bits.deBruijn32tab", laid_math_bits_deBruijn32tab), ("math/bits.deBruijn64tab", laid_math_bits_deBruijn64tab)], narrowed := true }
def StepTellsUptoSaid : Prop := stepTellsUptoRow.holds Tryd.pinned (OpenSpec.upto stepTellsSpec)

/-- 'brackenlaw16.StepPlaces', WHERE WHAT IT READS IS OF BULK AT MOST 1048576: true; the input reads as it did. -/
def stepPlacesUptoRow : OpenClaim := { program := "ytohcoidbncbijaadoor", sum := "d7baad3cd5e07a9ae32d44efbd7bacc4812d8816eddf2aa93d7a8e4d79ecaa94", func := "bracken/brackenlaw16.StepPlaces", spec := "stepPlaces", inPlace := ["math/bits.Sub64", "math/bits.Add64"], unfollowed := true, recurses := true, named := ["math/bits.deBruijn32tab", "math/bits.deBruijn64tab", "math/bits.divideError", "math/bits.overflowError"], apart := false, laid := [("math/bits.deBruijn32tab", laid_math_bits_deBruijn32tab), ("math/bits.deBruijn64tab", laid_math_bits_deBruijn64tab)], narrowed := true }
def StepPlacesUptoSaid : Prop := stepPlacesUptoRow.holds Tryd.pinned (OpenSpec.upto stepPlacesSpec)

/-- 'brackenlaw16.StepApart', WHERE WHAT IT READS IS OF BULK AT MOST 1048576: true; the input reads as it did. -/
def stepApartUptoRow : OpenClaim := { program := "ytohcoidbncbijaadoor", sum := "d7baad3cd5e07a9ae32d44efbd7bacc4812d8816eddf2aa93d7a8e4d79ecaa94", func := "bracken/brackenlaw16.StepApart", spec := "stepApart", inPlace := ["math/bits.Sub64", "math/bits.Add64"], unfollowed := true, recurses := true, named := ["math/bits.deBruijn32tab", "math/bits.deBruijn64tab", "math/bits.divideError", "math/bits.overflowError"], apart := false, laid := [("math/bits.deBruijn32tab", laid_math_bits_deBruijn32tab), ("math/bits.deBruijn64tab", laid_math_bits_deBruijn64tab)], narrowed := true }
def StepApartUptoSaid : Prop := stepApartUptoRow.holds Tryd.pinned (OpenSpec.upto stepApartSpec)

/-- 'brackenlaw17.PlanBack', WHERE WHAT IT READS IS OF BULK AT MOST 1048576: true; the input reads as it did. -/
def planBackUptoRow : OpenClaim := { program := "ytohcoidbncbijaadoor", sum := "d7baad3cd5e07a9ae32d44efbd7bacc4812d8816eddf2aa93d7a8e4d79ecaa94", func := "bracken/brackenlaw17.PlanBack", spec := "planBack", inPlace := ["math/bits.Sub64", "math/bits.Add64"], unfollowed := true, recurses := true, named := ["math/bits.deBruijn32tab", "math/bits.deBruijn64tab", "math/bits.divideError", "math/bits.overflowError"], apart := false, laid := [("math/bits.deBruijn32tab", laid_math_bits_deBruijn32tab), ("math/bits.deBruijn64tab", laid_math_bits_deBruijn64tab)], narrowed := true }
def PlanBackUptoSaid : Prop := planBackUptoRow.holds Tryd.pinned (OpenSpec.upto planBackSpec)

/-- 'brackenlaw16.StepDoes', WHERE WHAT IT READS IS OF BULK AT MOST 1048576: true; the input reads as it did. -/
def stepDoesUptoRow : OpenClaim := { program := "ytohcoidbncbijaadoor", sum := "d7baad3cd5e07a9ae32d44efbd7bacc4812d8816eddf2aa93d7a8e4d79ecaa94", func := "bracken/brackenlaw16.StepDoes", spec := "stepDoes", inPlace := ["math/bits.Sub64", "math/bits.Add64"], unfollowed := true, recurses := true, named := ["math/bits.deBruijn32tab", "math/bits.deBruijn64tab", "math/bits.divideError", "math/bits.overflowError"], apart := false, laid := [("math/bits.deBruijn32tab", laid_math_bits_deBruijn32tab), ("math/bits.deBruijn64tab", laid_math_bits_deBruijn64tab)], narrowed := true }
def StepDoesUptoSaid : Prop := stepDoesUptoRow.holds Tryd.pinned (OpenSpec.upto stepDoesSpec)

/-- 'brackenlaw16.StepPredicts', WHERE WHAT IT READS IS OF BULK AT MOST 1048576: true; the input reads as it did. -/
def stepPredictsUptoRow : OpenClaim := { program := "ytohcoidbncbijaadoor", sum := "d7baad3cd5e07a9ae32d44efbd7bacc4812d8816eddf2aa93d7a8e4d79ecaa94", func := "bracken/brackenlaw16.StepPredicts", spec := "stepPredicts", inPlace := ["math/bits.Sub64", "math/bits.Add64"], unfollowed := true, recurses := true, named := ["math/bits.deBruijn32tab", "math/bits.deBruijn64tab", "math/bits.divideError", "math/bits.overflowError"], apart := false, laid := [("math/bits.deBruijn32tab", laid_math_bits_deBruijn32tab), ("math/bits.deBruijn64tab", laid_math_bits_deBruijn64tab)], narrowed := true }
def StepPredictsUptoSaid : Prop := stepPredictsUptoRow.holds Tryd.pinned (OpenSpec.upto stepPredictsSpec)

/-- 'brackenlaw16.StepWhole', WHERE WHAT IT READS IS OF BULK AT MOST 1048576: true; the input reads as it did. -/
def stepWholeUptoRow : OpenClaim := { program := "ytohcoidbncbijaadoor", sum := "d7baad3cd5e07a9ae32d44efbd7bacc4812d8816eddf2aa93d7a8e4d79ecaa94", func := "bracken/brackenlaw16.StepWhole", spec := "stepWhole", inPlace := ["math/bits.Sub64", "math/bits.Add64"], unfollowed := true, recurses := true, named := ["math/bits.deBruijn32tab", "math/bits.deBruijn64tab", "math/bits.divideError", "math/bits.overflowError"], apart := false, laid := [("math/bits.deBruijn32tab", laid_math_bits_deBruijn32tab), ("math/bits.deBruijn64tab", laid_math_bits_deBruijn64tab)], narrowed := true }
def StepWholeUptoSaid : Prop := stepWholeUptoRow.holds Tryd.pinned (OpenSpec.upto stepWholeSpec)

/-- 'brackenlaw17.PlanWhole', WHERE WHAT IT READS IS OF BULK AT MOST 1048576: true; the input reads as it did. -/
def planWholeUptoRow : OpenClaim := { program := "ytohcoidbncbijaadoor", sum := "d7baad3cd5e07a9ae32d44efbd7bacc4812d8816eddf2aa93d7a8e4d79ecaa94", func := "bracken/brackenlaw17.PlanWhole", spec := "planWhole", inPlace := ["math/bits.Sub64", "math/bits.Add64"], unfollowed := true, recurses := true, named := ["math/bits.deBruijn32tab", "math/bits.deBruijn64tab", "math/bits.divideError", "math/bits.overflowError"], apart := false, laid := [("math/bits.deBruijn32tab", laid_math_bits_deBruijn32tab), ("math/bits.deBruijn64tab", laid_math_bits_deBruijn64tab)], narrowed := true }
def PlanWholeUptoSaid : Prop := planWholeUptoRow.holds Tryd.pinned (OpenSpec.upto planWholeSpec)

end Rows
end Go.Proofs.YtohcoidbncbijaaDoor
