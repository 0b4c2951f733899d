/-
  No cell of these rows narrows 'for every input' (looked for: loops, veiled, ifaces, maps, wideKeys, modest, calm, conditions, laid).
  DERIVED. THE GIVEN ROWS OF THIS SEAT. 27 by the template 'for every input the law returns true; each argument reads behind the call as it read before'; 0 by the template 'total and deterministic' (their statements: YtkofhmiakfmcaaaTotals.lean).
  GIVEN WITH THE SEED: the statements are not yours to turn. If you find one false, say at which input.
  Laid BY PROGRAM, IN A SANDBOX (cutbox-rows.mjs): the forced cells as the released guide's own fill.sh prints them over the translation 17dd7b8bd2af873e… (all of the seat's roots in one cut). By AI agents, Wed Nov 11 2026. No macro, syntax, notation, axiom, sorry.
-/
import Derived.Test.YtkofhmiakfmcaaaChecked
import GoSem.Claim
import GoSem.ClaimJoined
import GoSem.ClaimMapViews
import Derived.JoinedTies
import Derived.KernelRfl
namespace Go.Proofs.Ytkofhmiakfmcaaa
/- THE CELL 'sum', in the pinned program and in every row, IS THE sha256 OF THE DUMP (.gsa) THAT YtkofhmiakfmcaaaProg.lean LOADS. Nothing in Lean hashes anything: it is a label: what it is worth is what the hold of that sum in a sandbox is worth. -/
noncomputable def Try.pinned : Pinned := { name := "ytkofhmiakfmcaaa", sum := "17dd7b8bd2af873e63e7248f4092ab48eb35d6fd817ad694ebd8a248c438cc92", checked := Try.checked }
namespace Rows
def none {H : Type} : Left H := { results := [], args := [] }

/-- 'brackenlaw05.ShapeLines': WHATEVER THE INPUT: true; the input reads as it did. -/
def shapeLinesSpec : ChangeSpec := { name := "shapeLines", fn := fun _ => fun
  | [d1, d2] => { results := [.lit (.bool true)], args := [d1, d2] }
  | _ => none }
def shapeLinesRow : OpenClaim := { program := "ytkofhmiakfmcaaa", sum := "17dd7b8bd2af873e63e7248f4092ab48eb35d6fd817ad694ebd8a248c438cc92", func := "bracken/brackenlaw05.ShapeLines", spec := "shapeLines", apart := false }
def ShapeLinesSaid : Prop := shapeLinesRow.holds Try.pinned (OpenSpec.ofChange shapeLinesSpec)

/-- ITS FALSE NEIGHBOUR: 'it returns false'. Refute it at one input. -/
def shapeLinesWrong : ChangeSpec := { name := "shapeLines", fn := fun _ => fun
  | [d1, d2] => { results := [.lit (.bool false)], args := [d1, d2] }
  | _ => none }
def ShapeLinesWrongFalsely : Prop := shapeLinesRow.holds Try.pinned (OpenSpec.ofChange shapeLinesWrong)

/-- 'brackenlaw05.ShapeOne': WHATEVER THE INPUT: true; the input reads as it did. -/
def shapeOneSpec : ChangeSpec := { name := "shapeOne", fn := fun _ => fun
  | [d1, d2, d3] => { results := [.lit (.bool true)], args := [d1, d2, d3] }
  | _ => none }
def shapeOneRow : OpenClaim := { program := "ytkofhmiakfmcaaa", sum := "17dd7b8bd2af873e63e7248f4092ab48eb35d6fd817ad694ebd8a248c438cc92", func := "bracken/brackenlaw05.ShapeOne", spec := "shapeOne", apart := false }
def ShapeOneSaid : Prop := shapeOneRow.holds Try.pinned (OpenSpec.ofChange shapeOneSpec)

/-- ITS FALSE NEIGHBOUR: 'it returns false'. Refute it at one input. -/
def shapeOneWrong : ChangeSpec := { name := "shapeOne", fn := fun _ => fun
  | [d1, d2, d3] => { results := [.lit (.bool false)], args := [d1, d2, d3] }
  | _ => none }
def ShapeOneWrongFalsely : Prop := shapeOneRow.holds Try.pinned (OpenSpec.ofChange shapeOneWrong)

/-- 'brackenlaw05.ShapeDoes': WHATEVER THE INPUT: true; the input reads as it did. -/
def shapeDoesSpec : ChangeSpec := { name := "shapeDoes", fn := fun _ => fun
  | [d1, d2, d3, d4, d5] => { results := [.lit (.bool true)], args := [d1, d2, d3, d4, d5] }
  | _ => none }
def shapeDoesRow : OpenClaim := { program := "ytkofhmiakfmcaaa", sum := "17dd7b8bd2af873e63e7248f4092ab48eb35d6fd817ad694ebd8a248c438cc92", func := "bracken/brackenlaw05.ShapeDoes", spec := "shapeDoes", apart := false }
def ShapeDoesSaid : Prop := shapeDoesRow.holds Try.pinned (OpenSpec.ofChange shapeDoesSpec)

/-- ITS FALSE NEIGHBOUR: 'it returns false'. Refute it at one input. -/
def shapeDoesWrong : ChangeSpec := { name := "shapeDoes", fn := fun _ => fun
  | [d1, d2, d3, d4, d5] => { results := [.lit (.bool false)], args := [d1, d2, d3, d4, d5] }
  | _ => none }
def ShapeDoesWrongFalsely : Prop := shapeDoesRow.holds Try.pinned (OpenSpec.ofChange shapeDoesWrong)

/-- 'brackenlaw05.ShapeBack': WHATEVER THE INPUT: true; the input reads as it did. -/
def shapeBackSpec : ChangeSpec := { name := "shapeBack", fn := fun _ => fun
  | [d1, d2, d3] => { results := [.lit (.bool true)], args := [d1, d2, d3] }
  | _ => none }
def shapeBackRow : OpenClaim := { program := "ytkofhmiakfmcaaa", sum := "17dd7b8bd2af873e63e7248f4092ab48eb35d6fd817ad694ebd8a248c438cc92", func := "bracken/brackenlaw05.ShapeBack", spec := "shapeBack", apart := false }
def ShapeBackSaid : Prop := shapeBackRow.holds Try.pinned (OpenSpec.ofChange shapeBackSpec)

/-- ITS FALSE NEIGHBOUR: 'it returns false'. Refute it at one input. -/
def shapeBackWrong : ChangeSpec := { name := "shapeBack", fn := fun _ => fun
  | [d1, d2, d3] => { results := [.lit (.bool false)], args := [d1, d2, d3] }
  | _ => none }
def ShapeBackWrongFalsely : Prop := shapeBackRow.holds Try.pinned (OpenSpec.ofChange shapeBackWrong)

/-- 'brackenlaw01.FieldZero': WHATEVER THE INPUT: true; the input reads as it did. -/
def fieldZeroSpec : ChangeSpec := { name := "fieldZero", fn := fun _ => fun
  | [d1, d2, d3, d4] => { results := [.lit (.bool true)], args := [d1, d2, d3, d4] }
  | _ => none }
def fieldZeroRow : OpenClaim := { program := "ytkofhmiakfmcaaa", sum := "17dd7b8bd2af873e63e7248f4092ab48eb35d6fd817ad694ebd8a248c438cc92", func := "bracken/brackenlaw01.FieldZero", spec := "fieldZero", inPlace := ["math/bits.Add64", "math/bits.Sub64"], named := ["math/bits.divideError", "math/bits.overflowError"], apart := false }
def FieldZeroSaid : Prop := fieldZeroRow.holds Try.pinned (OpenSpec.ofChange fieldZeroSpec)

/-- ITS FALSE NEIGHBOUR: 'it returns false'. Refute it at one input. -/
def fieldZeroWrong : ChangeSpec := { name := "fieldZero", fn := fun _ => fun
  | [d1, d2, d3, d4] => { results := [.lit (.bool false)], args := [d1, d2, d3, d4] }
  | _ => none }
def FieldZeroWrongFalsely : Prop := fieldZeroRow.holds Try.pinned (OpenSpec.ofChange fieldZeroWrong)

/-- 'brackenlaw02.PowerSums': WHATEVER THE INPUT: true; the input reads as it did. -/
def powerSumsSpec : ChangeSpec := { name := "powerSums", fn := fun _ => fun
  | [d1, d2, d3, d4, d5] => { results := [.lit (.bool true)], args := [d1, d2, d3, d4, d5] }
  | _ => none }
def powerSumsRow : OpenClaim := { program := "ytkofhmiakfmcaaa", sum := "17dd7b8bd2af873e63e7248f4092ab48eb35d6fd817ad694ebd8a248c438cc92", func := "bracken/brackenlaw02.PowerSums", spec := "powerSums", inPlace := ["math/bits.Sub64", "math/bits.Add64"], named := ["math/bits.divideError", "math/bits.overflowError"], apart := false }
def PowerSumsSaid : Prop := powerSumsRow.holds Try.pinned (OpenSpec.ofChange powerSumsSpec)

/-- ITS FALSE NEIGHBOUR: 'it returns false'. Refute it at one input. -/
def powerSumsWrong : ChangeSpec := { name := "powerSums", fn := fun _ => fun
  | [d1, d2, d3, d4, d5] => { results := [.lit (.bool false)], args := [d1, d2, d3, d4, d5] }
  | _ => none }
def PowerSumsWrongFalsely : Prop := powerSumsRow.holds Try.pinned (OpenSpec.ofChange powerSumsWrong)

/-- 'brackenlaw02.PowerBack': WHATEVER THE INPUT: true; the input reads as it did. -/
def powerBackSpec : ChangeSpec := { name := "powerBack", fn := fun _ => fun
  | [d1, d2, d3] => { results := [.lit (.bool true)], args := [d1, d2, d3] }
  | _ => none }
def powerBackRow : OpenClaim := { program := "ytkofhmiakfmcaaa", sum := "17dd7b8bd2af873e63e7248f4092ab48eb35d6fd817ad694ebd8a248c438cc92", func := "bracken/brackenlaw02.PowerBack", spec := "powerBack", inPlace := ["math/bits.Sub64", "math/bits.Add64"], named := ["math/bits.divideError", "math/bits.overflowError"], apart := false }
def PowerBackSaid : Prop := powerBackRow.holds Try.pinned (OpenSpec.ofChange powerBackSpec)

/-- ITS FALSE NEIGHBOUR: 'it returns false'. Refute it at one input. -/
def powerBackWrong : ChangeSpec := { name := "powerBack", fn := fun _ => fun
  | [d1, d2, d3] => { results := [.lit (.bool false)], args := [d1, d2, d3] }
  | _ => none }
def PowerBackWrongFalsely : Prop := powerBackRow.holds Try.pinned (OpenSpec.ofChange powerBackWrong)

/-- 'brackenlaw01.FieldRing': WHATEVER THE INPUT: true; the input reads as it did. -/
def fieldRingSpec : ChangeSpec := { name := "fieldRing", fn := fun _ => fun
  | [d1, d2, d3, d4] => { results := [.lit (.bool true)], args := [d1, d2, d3, d4] }
  | _ => none }
def fieldRingRow : OpenClaim := { program := "ytkofhmiakfmcaaa", sum := "17dd7b8bd2af873e63e7248f4092ab48eb35d6fd817ad694ebd8a248c438cc92", func := "bracken/brackenlaw01.FieldRing", spec := "fieldRing", inPlace := ["math/bits.Add64", "math/bits.Sub64"], named := ["math/bits.divideError", "math/bits.overflowError"], apart := false }
def FieldRingSaid : Prop := fieldRingRow.holds Try.pinned (OpenSpec.ofChange fieldRingSpec)

/-- ITS FALSE NEIGHBOUR: 'it returns false'. Refute it at one input. -/
def fieldRingWrong : ChangeSpec := { name := "fieldRing", fn := fun _ => fun
  | [d1, d2, d3, d4] => { results := [.lit (.bool false)], args := [d1, d2, d3, d4] }
  | _ => none }
def FieldRingWrongFalsely : Prop := fieldRingRow.holds Try.pinned (OpenSpec.ofChange fieldRingWrong)

/-- 'brackenlaw01.FieldDoes': WHATEVER THE INPUT: true; the input reads as it did. -/
def fieldDoesSpec : ChangeSpec := { name := "fieldDoes", fn := fun _ => fun
  | [d1, d2, d3, d4] => { results := [.lit (.bool true)], args := [d1, d2, d3, d4] }
  | _ => none }
def fieldDoesRow : OpenClaim := { program := "ytkofhmiakfmcaaa", sum := "17dd7b8bd2af873e63e7248f4092ab48eb35d6fd817ad694ebd8a248c438cc92", func := "bracken/brackenlaw01.FieldDoes", spec := "fieldDoes", inPlace := ["math/bits.Add64", "math/bits.Sub64"], named := ["math/bits.divideError", "math/bits.overflowError"], apart := false }
def FieldDoesSaid : Prop := fieldDoesRow.holds Try.pinned (OpenSpec.ofChange fieldDoesSpec)

/-- ITS FALSE NEIGHBOUR: 'it returns false'. Refute it at one input. -/
def fieldDoesWrong : ChangeSpec := { name := "fieldDoes", fn := fun _ => fun
  | [d1, d2, d3, d4] => { results := [.lit (.bool false)], args := [d1, d2, d3, d4] }
  | _ => none }
def FieldDoesWrongFalsely : Prop := fieldDoesRow.holds Try.pinned (OpenSpec.ofChange fieldDoesWrong)

/-- 'brackenlaw01.FieldBelow': WHATEVER THE INPUT: true; the input reads as it did. -/
def fieldBelowSpec : ChangeSpec := { name := "fieldBelow", fn := fun _ => fun
  | [d1, d2, d3] => { results := [.lit (.bool true)], args := [d1, d2, d3] }
  | _ => none }
def fieldBelowRow : OpenClaim := { program := "ytkofhmiakfmcaaa", sum := "17dd7b8bd2af873e63e7248f4092ab48eb35d6fd817ad694ebd8a248c438cc92", func := "bracken/brackenlaw01.FieldBelow", spec := "fieldBelow", inPlace := ["math/bits.Add64", "math/bits.Sub64"], named := ["math/bits.divideError", "math/bits.overflowError"], apart := false }
def FieldBelowSaid : Prop := fieldBelowRow.holds Try.pinned (OpenSpec.ofChange fieldBelowSpec)

/-- ITS FALSE NEIGHBOUR: 'it returns false'. Refute it at one input. -/
def fieldBelowWrong : ChangeSpec := { name := "fieldBelow", fn := fun _ => fun
  | [d1, d2, d3] => { results := [.lit (.bool false)], args := [d1, d2, d3] }
  | _ => none }
def FieldBelowWrongFalsely : Prop := fieldBelowRow.holds Try.pinned (OpenSpec.ofChange fieldBelowWrong)

/-- 'brackenlaw02.PowerRow': WHATEVER THE INPUT: true; the input reads as it did. -/
def powerRowSpec : ChangeSpec := { name := "powerRow", fn := fun _ => fun
  | [d1, d2, d3] => { results := [.lit (.bool true)], args := [d1, d2, d3] }
  | _ => none }
def powerRowRow : OpenClaim := { program := "ytkofhmiakfmcaaa", sum := "17dd7b8bd2af873e63e7248f4092ab48eb35d6fd817ad694ebd8a248c438cc92", func := "bracken/brackenlaw02.PowerRow", spec := "powerRow", inPlace := ["math/bits.Sub64", "math/bits.Add64"], named := ["math/bits.divideError", "math/bits.overflowError"], apart := false }
def PowerRowSaid : Prop := powerRowRow.holds Try.pinned (OpenSpec.ofChange powerRowSpec)

/-- ITS FALSE NEIGHBOUR: 'it returns false'. Refute it at one input. -/
def powerRowWrong : ChangeSpec := { name := "powerRow", fn := fun _ => fun
  | [d1, d2, d3] => { results := [.lit (.bool false)], args := [d1, d2, d3] }
  | _ => none }
def PowerRowWrongFalsely : Prop := powerRowRow.holds Try.pinned (OpenSpec.ofChange powerRowWrong)

/-- 'brackenlaw03.RootSteps': WHATEVER THE INPUT: true; the input reads as it did. -/
def rootStepsSpec : ChangeSpec := { name := "rootSteps", fn := fun _ => fun
  | [d1, d2, d3] => { results := [.lit (.bool true)], args := [d1, d2, d3] }
  | _ => none }
def rootStepsRow : OpenClaim := { program := "ytkofhmiakfmcaaa", sum := "17dd7b8bd2af873e63e7248f4092ab48eb35d6fd817ad694ebd8a248c438cc92", func := "bracken/brackenlaw03.RootSteps", spec := "rootSteps", inPlace := ["math/bits.Sub64", "math/bits.Add64"], named := ["math/bits.divideError", "math/bits.overflowError"], apart := false }
def RootStepsSaid : Prop := rootStepsRow.holds Try.pinned (OpenSpec.ofChange rootStepsSpec)

/-- ITS FALSE NEIGHBOUR: 'it returns false'. Refute it at one input. -/
def rootStepsWrong : ChangeSpec := { name := "rootSteps", fn := fun _ => fun
  | [d1, d2, d3] => { results := [.lit (.bool false)], args := [d1, d2, d3] }
  | _ => none }
def RootStepsWrongFalsely : Prop := rootStepsRow.holds Try.pinned (OpenSpec.ofChange rootStepsWrong)

/-- 'brackenlaw03.RootSum': WHATEVER THE INPUT: true; the input reads as it did. -/
def rootSumSpec : ChangeSpec := { name := "rootSum", fn := fun _ => fun
  | [d1, d2, d3] => { results := [.lit (.bool true)], args := [d1, d2, d3] }
  | _ => none }
def rootSumRow : OpenClaim := { program := "ytkofhmiakfmcaaa", sum := "17dd7b8bd2af873e63e7248f4092ab48eb35d6fd817ad694ebd8a248c438cc92", func := "bracken/brackenlaw03.RootSum", spec := "rootSum", inPlace := ["math/bits.Sub64", "math/bits.Add64"], named := ["math/bits.divideError", "math/bits.overflowError"], apart := false }
def RootSumSaid : Prop := rootSumRow.holds Try.pinned (OpenSpec.ofChange rootSumSpec)

/-- ITS FALSE NEIGHBOUR: 'it returns false'. Refute it at one input. -/
def rootSumWrong : ChangeSpec := { name := "rootSum", fn := fun _ => fun
  | [d1, d2, d3] => { results := [.lit (.bool false)], args := [d1, d2, d3] }
  | _ => none }
def RootSumWrongFalsely : Prop := rootSumRow.holds Try.pinned (OpenSpec.ofChange rootSumWrong)

/-- 'brackenlaw02.PowerAll': WHATEVER THE INPUT: true; the input reads as it did. -/
def powerAllSpec : ChangeSpec := { name := "powerAll", fn := fun _ => fun
  | [d1, d2] => { results := [.lit (.bool true)], args := [d1, d2] }
  | _ => none }
def powerAllRow : OpenClaim := { program := "ytkofhmiakfmcaaa", sum := "17dd7b8bd2af873e63e7248f4092ab48eb35d6fd817ad694ebd8a248c438cc92", func := "bracken/brackenlaw02.PowerAll", spec := "powerAll", inPlace := ["math/bits.Sub64", "math/bits.Add64"], unfollowed := true, recurses := true, named := ["math/bits.divideError", "math/bits.overflowError"], apart := false }
def PowerAllSaid : Prop := powerAllRow.holds Try.pinned (OpenSpec.ofChange powerAllSpec)

/-- ITS FALSE NEIGHBOUR: 'it returns false'. Refute it at one input. -/
def powerAllWrong : ChangeSpec := { name := "powerAll", fn := fun _ => fun
  | [d1, d2] => { results := [.lit (.bool false)], args := [d1, d2] }
  | _ => none }
def PowerAllWrongFalsely : Prop := powerAllRow.holds Try.pinned (OpenSpec.ofChange powerAllWrong)

/-- 'brackenlaw02.PowerDoes': WHATEVER THE INPUT: true; the input reads as it did. -/
def powerDoesSpec : ChangeSpec := { name := "powerDoes", fn := fun _ => fun
  | [d1, d2, d3, d4, d5] => { results := [.lit (.bool true)], args := [d1, d2, d3, d4, d5] }
  | _ => none }
def powerDoesRow : OpenClaim := { program := "ytkofhmiakfmcaaa", sum := "17dd7b8bd2af873e63e7248f4092ab48eb35d6fd817ad694ebd8a248c438cc92", func := "bracken/brackenlaw02.PowerDoes", spec := "powerDoes", inPlace := ["math/bits.Sub64", "math/bits.Add64"], unfollowed := true, recurses := true, named := ["math/bits.divideError", "math/bits.overflowError"], apart := false }
def PowerDoesSaid : Prop := powerDoesRow.holds Try.pinned (OpenSpec.ofChange powerDoesSpec)

/-- ITS FALSE NEIGHBOUR: 'it returns false'. Refute it at one input. -/
def powerDoesWrong : ChangeSpec := { name := "powerDoes", fn := fun _ => fun
  | [d1, d2, d3, d4, d5] => { results := [.lit (.bool false)], args := [d1, d2, d3, d4, d5] }
  | _ => none }
def PowerDoesWrongFalsely : Prop := powerDoesRow.holds Try.pinned (OpenSpec.ofChange powerDoesWrong)

/-- 'brackenlaw08.GeomSteps': WHATEVER THE INPUT: true; the input reads as it did. -/
def geomStepsSpec : ChangeSpec := { name := "geomSteps", fn := fun _ => fun
  | [d1, d2, d3, d4] => { results := [.lit (.bool true)], args := [d1, d2, d3, d4] }
  | _ => none }
def geomStepsRow : OpenClaim := { program := "ytkofhmiakfmcaaa", sum := "17dd7b8bd2af873e63e7248f4092ab48eb35d6fd817ad694ebd8a248c438cc92", func := "bracken/brackenlaw08.GeomSteps", spec := "geomSteps", inPlace := ["math/bits.Sub64", "math/bits.Add64"], named := ["math/bits.divideError", "math/bits.overflowError"], apart := false }
def GeomStepsSaid : Prop := geomStepsRow.holds Try.pinned (OpenSpec.ofChange geomStepsSpec)

/-- ITS FALSE NEIGHBOUR: 'it returns false'. Refute it at one input. -/
def geomStepsWrong : ChangeSpec := { name := "geomSteps", fn := fun _ => fun
  | [d1, d2, d3, d4] => { results := [.lit (.bool false)], args := [d1, d2, d3, d4] }
  | _ => none }
def GeomStepsWrongFalsely : Prop := geomStepsRow.holds Try.pinned (OpenSpec.ofChange geomStepsWrong)

/-- 'brackenlaw03.RootDoes': WHATEVER THE INPUT: true; the input reads as it did. -/
def rootDoesSpec : ChangeSpec := { name := "rootDoes", fn := fun _ => fun
  | [d1, d2, d3] => { results := [.lit (.bool true)], args := [d1, d2, d3] }
  | _ => none }
def rootDoesRow : OpenClaim := { program := "ytkofhmiakfmcaaa", sum := "17dd7b8bd2af873e63e7248f4092ab48eb35d6fd817ad694ebd8a248c438cc92", func := "bracken/brackenlaw03.RootDoes", spec := "rootDoes", inPlace := ["math/bits.Sub64", "math/bits.Add64"], recurses := true, named := ["math/bits.divideError", "math/bits.overflowError"], apart := false }
def RootDoesSaid : Prop := rootDoesRow.holds Try.pinned (OpenSpec.ofChange rootDoesSpec)

/-- ITS FALSE NEIGHBOUR: 'it returns false'. Refute it at one input. -/
def rootDoesWrong : ChangeSpec := { name := "rootDoes", fn := fun _ => fun
  | [d1, d2, d3] => { results := [.lit (.bool false)], args := [d1, d2, d3] }
  | _ => none }
def RootDoesWrongFalsely : Prop := rootDoesRow.holds Try.pinned (OpenSpec.ofChange rootDoesWrong)

/-- 'brackenlaw03.RootOrder': WHATEVER THE INPUT: true; the input reads as it did. -/
def rootOrderSpec : ChangeSpec := { name := "rootOrder", fn := fun _ => fun
  | [d1, d2, d3] => { results := [.lit (.bool true)], args := [d1, d2, d3] }
  | _ => none }
def rootOrderRow : OpenClaim := { program := "ytkofhmiakfmcaaa", sum := "17dd7b8bd2af873e63e7248f4092ab48eb35d6fd817ad694ebd8a248c438cc92", func := "bracken/brackenlaw03.RootOrder", spec := "rootOrder", inPlace := ["math/bits.Sub64", "math/bits.Add64"], named := ["math/bits.divideError", "math/bits.overflowError"], apart := false }
def RootOrderSaid : Prop := rootOrderRow.holds Try.pinned (OpenSpec.ofChange rootOrderSpec)

/-- ITS FALSE NEIGHBOUR: 'it returns false'. Refute it at one input. -/
def rootOrderWrong : ChangeSpec := { name := "rootOrder", fn := fun _ => fun
  | [d1, d2, d3] => { results := [.lit (.bool false)], args := [d1, d2, d3] }
  | _ => none }
def RootOrderWrongFalsely : Prop := rootOrderRow.holds Try.pinned (OpenSpec.ofChange rootOrderWrong)

/-- 'brackenlaw08.GeomEval': WHATEVER THE INPUT: true; the input reads as it did. -/
def geomEvalSpec : ChangeSpec := { name := "geomEval", fn := fun _ => fun
  | [d1, d2, d3, d4, d5] => { results := [.lit (.bool true)], args := [d1, d2, d3, d4, d5] }
  | _ => none }
def geomEvalRow : OpenClaim := { program := "ytkofhmiakfmcaaa", sum := "17dd7b8bd2af873e63e7248f4092ab48eb35d6fd817ad694ebd8a248c438cc92", func := "bracken/brackenlaw08.GeomEval", spec := "geomEval", inPlace := ["math/bits.Sub64", "math/bits.Add64"], unfollowed := true, recurses := true, named := ["math/bits.divideError", "math/bits.overflowError"], apart := false }
def GeomEvalSaid : Prop := geomEvalRow.holds Try.pinned (OpenSpec.ofChange geomEvalSpec)

/-- ITS FALSE NEIGHBOUR: 'it returns false'. Refute it at one input. -/
def geomEvalWrong : ChangeSpec := { name := "geomEval", fn := fun _ => fun
  | [d1, d2, d3, d4, d5] => { results := [.lit (.bool false)], args := [d1, d2, d3, d4, d5] }
  | _ => none }
def GeomEvalWrongFalsely : Prop := geomEvalRow.holds Try.pinned (OpenSpec.ofChange geomEvalWrong)

/-- 'brackenlaw08.GeomDoes': WHATEVER THE INPUT: true; the input reads as it did. -/
def geomDoesSpec : ChangeSpec := { name := "geomDoes", fn := fun _ => fun
  | [d1, d2, d3, d4, d5] => { results := [.lit (.bool true)], args := [d1, d2, d3, d4, d5] }
  | _ => none }
def geomDoesRow : OpenClaim := { program := "ytkofhmiakfmcaaa", sum := "17dd7b8bd2af873e63e7248f4092ab48eb35d6fd817ad694ebd8a248c438cc92", func := "bracken/brackenlaw08.GeomDoes", spec := "geomDoes", inPlace := ["math/bits.Sub64", "math/bits.Add64"], unfollowed := true, recurses := true, named := ["math/bits.divideError", "math/bits.overflowError"], apart := false }
def GeomDoesSaid : Prop := geomDoesRow.holds Try.pinned (OpenSpec.ofChange geomDoesSpec)

/-- ITS FALSE NEIGHBOUR: 'it returns false'. Refute it at one input. -/
def geomDoesWrong : ChangeSpec := { name := "geomDoes", fn := fun _ => fun
  | [d1, d2, d3, d4, d5] => { results := [.lit (.bool false)], args := [d1, d2, d3, d4, d5] }
  | _ => none }
def GeomDoesWrongFalsely : Prop := geomDoesRow.holds Try.pinned (OpenSpec.ofChange geomDoesWrong)

/-- 'brackenlaw08.GeomRoots': WHATEVER THE INPUT: true; the input reads as it did. -/
def geomRootsSpec : ChangeSpec := { name := "geomRoots", fn := fun _ => fun
  | [d1, d2, d3] => { results := [.lit (.bool true)], args := [d1, d2, d3] }
  | _ => none }
def geomRootsRow : OpenClaim := { program := "ytkofhmiakfmcaaa", sum := "17dd7b8bd2af873e63e7248f4092ab48eb35d6fd817ad694ebd8a248c438cc92", func := "bracken/brackenlaw08.GeomRoots", spec := "geomRoots", inPlace := ["math/bits.Sub64", "math/bits.Add64"], unfollowed := true, recurses := true, named := ["math/bits.divideError", "math/bits.overflowError"], apart := false }
def GeomRootsSaid : Prop := geomRootsRow.holds Try.pinned (OpenSpec.ofChange geomRootsSpec)

/-- ITS FALSE NEIGHBOUR: 'it returns false'. Refute it at one input. -/
def geomRootsWrong : ChangeSpec := { name := "geomRoots", fn := fun _ => fun
  | [d1, d2, d3] => { results := [.lit (.bool false)], args := [d1, d2, d3] }
  | _ => none }
def GeomRootsWrongFalsely : Prop := geomRootsRow.holds Try.pinned (OpenSpec.ofChange geomRootsWrong)

/-- 'brackenlaw15.FlyBack': WHATEVER THE INPUT: true; the input reads as it did. -/
def flyBackSpec : ChangeSpec := { name := "flyBack", fn := fun _ => fun
  | [d1, d2, d3] => { results := [.lit (.bool true)], args := [d1, d2, d3] }
  | _ => none }
def flyBackRow : OpenClaim := { program := "ytkofhmiakfmcaaa", sum := "17dd7b8bd2af873e63e7248f4092ab48eb35d6fd817ad694ebd8a248c438cc92", func := "bracken/brackenlaw15.FlyBack", spec := "flyBack", inPlace := ["math/bits.Sub64", "math/bits.Add64"], unfollowed := true, recurses := true, named := ["math/bits.divideError", "math/bits.overflowError"], apart := false }
def FlyBackSaid : Prop := flyBackRow.holds Try.pinned (OpenSpec.ofChange flyBackSpec)

/-- ITS FALSE NEIGHBOUR: 'it returns false'. Refute it at one input. -/
def flyBackWrong : ChangeSpec := { name := "flyBack", fn := fun _ => fun
  | [d1, d2, d3] => { results := [.lit (.bool false)], args := [d1, d2, d3] }
  | _ => none }
def FlyBackWrongFalsely : Prop := flyBackRow.holds Try.pinned (OpenSpec.ofChange flyBackWrong)

/-- 'brackenlaw15.FlySums': WHATEVER THE INPUT: true; the input reads as it did. -/
def flySumsSpec : ChangeSpec := { name := "flySums", fn := fun _ => fun
  | [d1, d2, d3, d4, d5] => { results := [.lit (.bool true)], args := [d1, d2, d3, d4, d5] }
  | _ => none }
def flySumsRow : OpenClaim := { program := "ytkofhmiakfmcaaa", sum := "17dd7b8bd2af873e63e7248f4092ab48eb35d6fd817ad694ebd8a248c438cc92", func := "bracken/brackenlaw15.FlySums", spec := "flySums", inPlace := ["math/bits.Sub64", "math/bits.Add64"], unfollowed := true, recurses := true, named := ["math/bits.divideError", "math/bits.overflowError"], apart := false }
def FlySumsSaid : Prop := flySumsRow.holds Try.pinned (OpenSpec.ofChange flySumsSpec)

/-- ITS FALSE NEIGHBOUR: 'it returns false'. Refute it at one input. -/
def flySumsWrong : ChangeSpec := { name := "flySums", fn := fun _ => fun
  | [d1, d2, d3, d4, d5] => { results := [.lit (.bool false)], args := [d1, d2, d3, d4, d5] }
  | _ => none }
def FlySumsWrongFalsely : Prop := flySumsRow.holds Try.pinned (OpenSpec.ofChange flySumsWrong)

/-- 'brackenlaw15.FlyTurns': WHATEVER THE INPUT: true; the input reads as it did. -/
def flyTurnsSpec : ChangeSpec := { name := "flyTurns", fn := fun _ => fun
  | [d1, d2, d3] => { results := [.lit (.bool true)], args := [d1, d2, d3] }
  | _ => none }
def flyTurnsRow : OpenClaim := { program := "ytkofhmiakfmcaaa", sum := "17dd7b8bd2af873e63e7248f4092ab48eb35d6fd817ad694ebd8a248c438cc92", func := "bracken/brackenlaw15.FlyTurns", spec := "flyTurns", inPlace := ["math/bits.Sub64", "math/bits.Add64"], unfollowed := true, recurses := true, named := ["math/bits.divideError", "math/bits.overflowError"], apart := false }
def FlyTurnsSaid : Prop := flyTurnsRow.holds Try.pinned (OpenSpec.ofChange flyTurnsSpec)

/-- ITS FALSE NEIGHBOUR: 'it returns false'. Refute it at one input. -/
def flyTurnsWrong : ChangeSpec := { name := "flyTurns", fn := fun _ => fun
  | [d1, d2, d3] => { results := [.lit (.bool false)], args := [d1, d2, d3] }
  | _ => none }
def FlyTurnsWrongFalsely : Prop := flyTurnsRow.holds Try.pinned (OpenSpec.ofChange flyTurnsWrong)

/-- 'brackenlaw15.FlyPoints': WHATEVER THE INPUT: true; the input reads as it did. -/
def flyPointsSpec : ChangeSpec := { name := "flyPoints", fn := fun _ => fun
  | [d1, d2, d3, d4] => { results := [.lit (.bool true)], args := [d1, d2, d3, d4] }
  | _ => none }
def flyPointsRow : OpenClaim := { program := "ytkofhmiakfmcaaa", sum := "17dd7b8bd2af873e63e7248f4092ab48eb35d6fd817ad694ebd8a248c438cc92", func := "bracken/brackenlaw15.FlyPoints", spec := "flyPoints", inPlace := ["math/bits.Sub64", "math/bits.Add64"], unfollowed := true, recurses := true, named := ["math/bits.divideError", "math/bits.overflowError"], apart := false }
def FlyPointsSaid : Prop := flyPointsRow.holds Try.pinned (OpenSpec.ofChange flyPointsSpec)

/-- ITS FALSE NEIGHBOUR: 'it returns false'. Refute it at one input. -/
def flyPointsWrong : ChangeSpec := { name := "flyPoints", fn := fun _ => fun
  | [d1, d2, d3, d4] => { results := [.lit (.bool false)], args := [d1, d2, d3, d4] }
  | _ => none }
def FlyPointsWrongFalsely : Prop := flyPointsRow.holds Try.pinned (OpenSpec.ofChange flyPointsWrong)

/-- 'brackenlaw15.FlyDoes': WHATEVER THE INPUT: true; the input reads as it did. -/
def flyDoesSpec : ChangeSpec := { name := "flyDoes", fn := fun _ => fun
  | [d1, d2, d3, d4, d5] => { results := [.lit (.bool true)], args := [d1, d2, d3, d4, d5] }
  | _ => none }
def flyDoesRow : OpenClaim := { program := "ytkofhmiakfmcaaa", sum := "17dd7b8bd2af873e63e7248f4092ab48eb35d6fd817ad694ebd8a248c438cc92", func := "bracken/brackenlaw15.FlyDoes", spec := "flyDoes", inPlace := ["math/bits.Sub64", "math/bits.Add64"], unfollowed := true, recurses := true, named := ["math/bits.divideError", "math/bits.overflowError"], apart := false }
def FlyDoesSaid : Prop := flyDoesRow.holds Try.pinned (OpenSpec.ofChange flyDoesSpec)

/-- ITS FALSE NEIGHBOUR: 'it returns false'. Refute it at one input. -/
def flyDoesWrong : ChangeSpec := { name := "flyDoes", fn := fun _ => fun
  | [d1, d2, d3, d4, d5] => { results := [.lit (.bool false)], args := [d1, d2, d3, d4, d5] }
  | _ => none }
def FlyDoesWrongFalsely : Prop := flyDoesRow.holds Try.pinned (OpenSpec.ofChange flyDoesWrong)

/-- 'brackenlaw15.FlyWeighs': WHATEVER THE INPUT: true; the input reads as it did. -/
def flyWeighsSpec : ChangeSpec := { name := "flyWeighs", fn := fun _ => fun
  | [d1, d2, d3, d4] => { results := [.lit (.bool true)], args := [d1, d2, d3, d4] }
  | _ => none }
def flyWeighsRow : OpenClaim := { program := "ytkofhmiakfmcaaa", sum := "17dd7b8bd2af873e63e7248f4092ab48eb35d6fd817ad694ebd8a248c438cc92", func := "bracken/brackenlaw15.FlyWeighs", spec := "flyWeighs", inPlace := ["math/bits.Sub64", "math/bits.Add64"], unfollowed := true, recurses := true, named := ["math/bits.divideError", "math/bits.overflowError"], apart := false }
def FlyWeighsSaid : Prop := flyWeighsRow.holds Try.pinned (OpenSpec.ofChange flyWeighsSpec)

/-- ITS FALSE NEIGHBOUR: 'it returns false'. Refute it at one input. -/
def flyWeighsWrong : ChangeSpec := { name := "flyWeighs", fn := fun _ => fun
  | [d1, d2, d3, d4] => { results := [.lit (.bool false)], args := [d1, d2, d3, d4] }
  | _ => none }
def FlyWeighsWrongFalsely : Prop := flyWeighsRow.holds Try.pinned (OpenSpec.ofChange flyWeighsWrong)

/- THE SECOND FORM. 'bulk': how many values and letters a reading holds, each counted each time it is reached (what is shared counts as often as it is met; a slice's spare places count too). A statement '..UptoSaid' is the law's where the arguments, and the package variables that the reading takes, are together of bulk at most 1048576: NARROWER than '..Said'. Prove '..Said' where nothing that the law and all that it calls make is longer than what came in: it says more and counts as full. Else prove '..UptoSaid'. A law counts once. -/
mutual
def uptoBulk {H : Type} : DataW H → Nat
  | .lit (.string bytes) => bytes.length + 1
  | .lit _ => 1
  | .nil => 1
  | .ptr d => uptoBulk d + 1
  | .slice elems spare => uptoBulkAll elems + uptoBulkAll spare + 1
  | .agg parts => uptoBulkAll parts + 1
  | .iface _ d => uptoBulk d + 1
  | .map entries => uptoBulkEntries entries + 1
  | .held _ => 1
def uptoBulkAll {H : Type} : List (DataW H) → Nat
  | [] => 0
  | d :: r => uptoBulk d + uptoBulkAll r
def uptoBulkEntries {H : Type} : List (Lit × DataW H) → Nat
  | [] => 0
  | x :: r => uptoBulkEntry x + uptoBulkEntries r
def uptoBulkEntry {H : Type} : Lit × DataW H → Nat
  | (.string bytes, d) => bytes.length + uptoBulk d + 1
  | (_, d) => uptoBulk d + 1
 end
def uptoSmall : (H : Type) → List (DataW H) → Bool := fun _ ds => decide (uptoBulkAll ds ≤ 1048576)
def OpenSpec.upto (s : _root_.Go.ChangeSpec) : _root_.Go.OpenSpec := { _root_.Go.OpenSpec.ofChange s with cond := some uptoSmall }

/-- 'brackenlaw05.ShapeLines', WHERE WHAT IT READS IS OF BULK AT MOST 1048576: true; the input reads as it did. -/
def shapeLinesUptoRow : OpenClaim := { program := "ytkofhmiakfmcaaa", sum := "17dd7b8bd2af873e63e7248f4092ab48eb35d6fd817ad694ebd8a248c438cc92", func := "bracken/brackenlaw05.ShapeLines", spec := "shapeLines", apart := false, narrowed := true }
def ShapeLinesUptoSaid : Prop := shapeLinesUptoRow.holds Try.pinned (OpenSpec.upto shapeLinesSpec)

/-- 'brackenlaw05.ShapeOne', WHERE WHAT IT READS IS OF BULK AT MOST 1048576: true; the input reads as it did. -/
def shapeOneUptoRow : OpenClaim := { program := "ytkofhmiakfmcaaa", sum := "17dd7b8bd2af873e63e7248f4092ab48eb35d6fd817ad694ebd8a248c438cc92", func := "bracken/brackenlaw05.ShapeOne", spec := "shapeOne", apart := false, narrowed := true }
def ShapeOneUptoSaid : Prop := shapeOneUptoRow.holds Try.pinned (OpenSpec.upto shapeOneSpec)

/-- 'brackenlaw05.ShapeDoes', WHERE WHAT IT READS IS OF BULK AT MOST 1048576: true; the input reads as it did. -/
def shapeDoesUptoRow : OpenClaim := { program := "ytkofhmiakfmcaaa", sum := "17dd7b8bd2af873e63e7248f4092ab48eb35d6fd817ad694ebd8a248c438cc92", func := "bracken/brackenlaw05.ShapeDoes", spec := "shapeDoes", apart := false, narrowed := true }
def ShapeDoesUptoSaid : Prop := shapeDoesUptoRow.holds Try.pinned (OpenSpec.upto shapeDoesSpec)

/-- 'brackenlaw05.ShapeBack', WHERE WHAT IT READS IS OF BULK AT MOST 1048576: true; the input reads as it did. -/
def shapeBackUptoRow : OpenClaim := { program := "ytkofhmiakfmcaaa", sum := "17dd7b8bd2af873e63e7248f4092ab48eb35d6fd817ad694ebd8a248c438cc92", func := "bracken/brackenlaw05.ShapeBack", spec := "shapeBack", apart := false, narrowed := true }
def ShapeBackUptoSaid : Prop := shapeBackUptoRow.holds Try.pinned (OpenSpec.upto shapeBackSpec)

/-- 'brackenlaw01.FieldZero', WHERE WHAT IT READS IS OF BULK AT MOST 1048576: true; the input reads as it did. -/
def fieldZeroUptoRow : OpenClaim := { program := "ytkofhmiakfmcaaa", sum := "17dd7b8bd2af873e63e7248f4092ab48eb35d6fd817ad694ebd8a248c438cc92", func := "bracken/brackenlaw01.FieldZero", spec := "fieldZero", inPlace := ["math/bits.Add64", "math/bits.Sub64"], named := ["math/bits.divideError", "math/bits.overflowError"], apart := false, narrowed := true }
def FieldZeroUptoSaid : Prop := fieldZeroUptoRow.holds Try.pinned (OpenSpec.upto fieldZeroSpec)

/-- 'brackenlaw02.PowerSums', WHERE WHAT IT READS IS OF BULK AT MOST 1048576: true; the input reads as it did. -/
def powerSumsUptoRow : OpenClaim := { program := "ytkofhmiakfmcaaa", sum := "17dd7b8bd2af873e63e7248f4092ab48eb35d6fd817ad694ebd8a248c438cc92", func := "bracken/brackenlaw02.PowerSums", spec := "powerSums", inPlace := ["math/bits.Sub64", "math/bits.Add64"], named := ["math/bits.divideError", "math/bits.overflowError"], apart := false, narrowed := true }
def PowerSumsUptoSaid : Prop := powerSumsUptoRow.holds Try.pinned (OpenSpec.upto powerSumsSpec)

/-- 'brackenlaw02.PowerBack', WHERE WHAT IT READS IS OF BULK AT MOST 1048576: true; the input reads as it did. -/
def powerBackUptoRow : OpenClaim := { program := "ytkofhmiakfmcaaa", sum := "17dd7b8bd2af873e63e7248f4092ab48eb35d6fd817ad694ebd8a248c438cc92", func := "bracken/brackenlaw02.PowerBack", spec := "powerBack", inPlace := ["math/bits.Sub64", "math/bits.Add64"], named := ["math/bits.divideError", "math/bits.overflowError"], apart := false, narrowed := true }
def PowerBackUptoSaid : Prop := powerBackUptoRow.holds Try.pinned (OpenSpec.upto powerBackSpec)

/-- 'brackenlaw01.FieldRing', WHERE WHAT IT READS IS OF BULK AT MOST 1048576: true; the input reads as it did. -/
def fieldRingUptoRow : OpenClaim := { program := "ytkofhmiakfmcaaa", sum := "17dd7b8bd2af873e63e7248f4092ab48eb35d6fd817ad694ebd8a248c438cc92", func := "bracken/brackenlaw01.FieldRing", spec := "fieldRing", inPlace := ["math/bits.Add64", "math/bits.Sub64"], named := ["math/bits.divideError", "math/bits.overflowError"], apart := false, narrowed := true }
def FieldRingUptoSaid : Prop := fieldRingUptoRow.holds Try.pinned (OpenSpec.upto fieldRingSpec)

/-- 'brackenlaw01.FieldDoes', WHERE WHAT IT READS IS OF BULK AT MOST 1048576: true; the input reads as it did. -/
def fieldDoesUptoRow : OpenClaim := { program := "ytkofhmiakfmcaaa", sum := "17dd7b8bd2af873e63e7248f4092ab48eb35d6fd817ad694ebd8a248c438cc92", func := "bracken/brackenlaw01.FieldDoes", spec := "fieldDoes", inPlace := ["math/bits.Add64", "math/bits.Sub64"], named := ["math/bits.divideError", "math/bits.overflowError"], apart := false, narrowed := true }
def FieldDoesUptoSaid : Prop := fieldDoesUptoRow.holds Try.pinned (OpenSpec.upto fieldDoesSpec)

/-- 'brackenlaw01.FieldBelow', WHERE WHAT IT READS IS OF BULK AT MOST 1048576: true; the input reads as it did. -/
def fieldBelowUptoRow : OpenClaim := { program := "ytkofhmiakfmcaaa", sum := "17dd7b8bd2af873e63e7248f4092ab48eb35d6fd817ad694ebd8a248c438cc92", func := "bracken/brackenlaw01.FieldBelow", spec := "fieldBelow", inPlace := ["math/bits.Add64", "math/bits.Sub64"], named := ["math/bits.divideError", "math/bits.overflowError"], apart := false, narrowed := true }
def FieldBelowUptoSaid : Prop := fieldBelowUptoRow.holds Try.pinned (OpenSpec.upto fieldBelowSpec)

/-- 'brackenlaw02.PowerRow', WHERE WHAT IT READS IS OF BULK AT MOST 1048576: true; the input reads as it did. -/
def powerRowUptoRow : OpenClaim := { program := "ytkofhmiakfmcaaa", sum := "17dd7b8bd2af873e63e7248f4092ab48eb35d6fd817ad694ebd8a248c438cc92", func := "bracken/brackenlaw02.PowerRow", spec := "powerRow", inPlace := ["math/bits.Sub64", "math/bits.Add64"], named := ["math/bits.divideError", "math/bits.overflowError"], apart := false, narrowed := true }
def PowerRowUptoSaid : Prop := powerRowUptoRow.holds Try.pinned (OpenSpec.upto powerRowSpec)

/-- 'brackenlaw03.RootSteps', WHERE WHAT IT READS IS OF BULK AT MOST 1048576: true; the input reads as it did. -/
def rootStepsUptoRow : OpenClaim := { program := "ytkofhmiakfmcaaa", sum := "17dd7b8bd2af873e63e7248f4092ab48eb35d6fd817ad694ebd8a248c438cc92", func := "bracken/brackenlaw03.RootSteps", spec := "rootSteps", inPlace := ["math/bits.Sub64", "math/bits.Add64"], named := ["math/bits.divideError", "math/bits.overflowError"], apart := false, narrowed := true }
def RootStepsUptoSaid : Prop := rootStepsUptoRow.holds Try.pinned (OpenSpec.upto rootStepsSpec)

/-- 'brackenlaw03.RootSum', WHERE WHAT IT READS IS OF BULK AT MOST 1048576: true; the input reads as it did. -/
def rootSumUptoRow : OpenClaim := { program := "ytkofhmiakfmcaaa", sum := "17dd7b8bd2af873e63e7248f4092ab48eb35d6fd817ad694ebd8a248c438cc92", func := "bracken/brackenlaw03.RootSum", spec := "rootSum", inPlace := ["math/bits.Sub64", "math/bits.Add64"], named := ["math/bits.divideError", "math/bits.overflowError"], apart := false, narrowed := true }
def RootSumUptoSaid : Prop := rootSumUptoRow.holds Try.pinned (OpenSpec.upto rootSumSpec)

/-- 'brackenlaw02.PowerAll', WHERE WHAT IT READS IS OF BULK AT MOST 1048576: true; the input reads as it did. -/
def powerAllUptoRow : OpenClaim := { program := "ytkofhmiakfmcaaa", sum := "17dd7b8bd2af873e63e7248f4092ab48eb35d6fd817ad694ebd8a248c438cc92", func := "bracken/brackenlaw02.PowerAll", spec := "powerAll", inPlace := ["math/bits.Sub64", "math/bits.Add64"], unfollowed := true, recurses := true, named := ["math/bits.divideError", "math/bits.overflowError"], apart := false, narrowed := true }
def PowerAllUptoSaid : Prop := powerAllUptoRow.holds Try.pinned (OpenSpec.upto powerAllSpec)

/-- 'brackenlaw02.PowerDoes', WHERE WHAT IT READS IS OF BULK AT MOST 1048576: true; the input reads as it did. -/
def powerDoesUptoRow : OpenClaim := { program := "ytkofhmiakfmcaaa", sum := "17dd7b8bd2af873e63e7248f4092ab48eb35d6fd817ad694ebd8a248c438cc92", func := "bracken/brackenlaw02.PowerDoes", spec := "powerDoes", inPlace := ["math/bits.Sub64", "math/bits.Add64"], unfollowed := true, recurses := true, named := ["math/bits.divideError", "math/bits.overflowError"], apart := false, narrowed := true }
def PowerDoesUptoSaid : Prop := powerDoesUptoRow.holds Try.pinned (OpenSpec.upto powerDoesSpec)

/-- 'brackenlaw08.GeomSteps', WHERE WHAT IT READS IS OF BULK AT MOST 1048576: true; the input reads as it did. -/
def geomStepsUptoRow : OpenClaim := { program := "ytkofhmiakfmcaaa", sum := "17dd7b8bd2af873e63e7248f4092ab48eb35d6fd817ad694ebd8a248c438cc92", func := "bracken/brackenlaw08.GeomSteps", spec := "geomSteps", inPlace := ["math/bits.Sub64", "math/bits.Add64"], named := ["math/bits.divideError", "math/bits.overflowError"], apart := false, narrowed := true }
def GeomStepsUptoSaid : Prop := geomStepsUptoRow.holds Try.pinned (OpenSpec.upto geomStepsSpec)

/-- 'brackenlaw03.RootDoes', WHERE WHAT IT READS IS OF BULK AT MOST 1048576: true; the input reads as it did. -/
def rootDoesUptoRow : OpenClaim := { program := "ytkofhmiakfmcaaa", sum := "17dd7b8bd2af873e63e7248f4092ab48eb35d6fd817ad694ebd8a248c438cc92", func := "bracken/brackenlaw03.RootDoes", spec := "rootDoes", inPlace := ["math/bits.Sub64", "math/bits.Add64"], recurses := true, named := ["math/bits.divideError", "math/bits.overflowError"], apart := false, narrowed := true }
def RootDoesUptoSaid : Prop := rootDoesUptoRow.holds Try.pinned (OpenSpec.upto rootDoesSpec)

/-- 'brackenlaw03.RootOrder', WHERE WHAT IT READS IS OF BULK AT MOST 1048576: true; the input reads as it did. -/
def rootOrderUptoRow : OpenClaim := { program := "ytkofhmiakfmcaaa", sum := "17dd7b8bd2af873e63e7248f4092ab48eb35d6fd817ad694ebd8a248c438cc92", func := "bracken/brackenlaw03.RootOrder", spec := "rootOrder", inPlace := ["math/bits.Sub64", "math/bits.Add64"], named := ["math/bits.divideError", "math/bits.overflowError"], apart := false, narrowed := true }
def RootOrderUptoSaid : Prop := rootOrderUptoRow.holds Try.pinned (OpenSpec.upto rootOrderSpec)

/-- 'brackenlaw08.GeomEval', WHERE WHAT IT READS IS OF BULK AT MOST 1048576: true; the input reads as it did. -/
def geomEvalUptoRow : OpenClaim := { program := "ytkofhmiakfmcaaa", sum := "17dd7b8bd2af873e63e7248f4092ab48eb35d6fd817ad694ebd8a248c438cc92", func := "bracken/brackenlaw08.GeomEval", spec := "geomEval", inPlace := ["math/bits.Sub64", "math/bits.Add64"], unfollowed := true, recurses := true, named := ["math/bits.divideError", "math/bits.overflowError"], apart := false, narrowed := true }
def GeomEvalUptoSaid : Prop := geomEvalUptoRow.holds Try.pinned (OpenSpec.upto geomEvalSpec)

/-- 'brackenlaw08.GeomDoes', WHERE WHAT IT READS IS OF BULK AT MOST 1048576: true; the input reads as it did. -/
def geomDoesUptoRow : OpenClaim := { program := "ytkofhmiakfmcaaa", sum := "17dd7b8bd2af873e63e7248f4092ab48eb35d6fd817ad694ebd8a248c438cc92", func := "bracken/brackenlaw08.GeomDoes", spec := "geomDoes", inPlace := ["math/bits.Sub64", "math/bits.Add64"], unfollowed := true, recurses := true, named := ["math/bits.divideError", "math/bits.overflowError"], apart := false, narrowed := true }
def GeomDoesUptoSaid : Prop := geomDoesUptoRow.holds Try.pinned (OpenSpec.upto geomDoesSpec)

/-- 'brackenlaw08.GeomRoots', WHERE WHAT IT READS IS OF BULK AT MOST 1048576: true; the input reads as it did. -/
def geomRootsUptoRow : OpenClaim := { program := "ytkofhmiakfmcaaa", sum := "17dd7b8bd2af873e63e7248f4092ab48eb35d6fd817ad694ebd8a248c438cc92", func := "bracken/brackenlaw08.GeomRoots", spec := "geomRoots", inPlace := ["math/bits.Sub64", "math/bits.Add64"], unfollowed := true, recurses := true, named := ["math/bits.divideError", "math/bits.overflowError"], apart := false, narrowed := true }
def GeomRootsUptoSaid : Prop := geomRootsUptoRow.holds Try.pinned (OpenSpec.upto geomRootsSpec)

/-- 'brackenlaw15.FlyBack', WHERE WHAT IT READS IS OF BULK AT MOST 1048576: true; the input reads as it did. -/
def flyBackUptoRow : OpenClaim := { program := "ytkofhmiakfmcaaa", sum := "17dd7b8bd2af873e63e7248f4092ab48eb35d6fd817ad694ebd8a248c438cc92", func := "bracken/brackenlaw15.FlyBack", spec := "flyBack", inPlace := ["math/bits.Sub64", "math/bits.Add64"], unfollowed := true, recurses := true, named := ["math/bits.divideError", "math/bits.overflowError"], apart := false, narrowed := true }
def FlyBackUptoSaid : Prop := flyBackUptoRow.holds Try.pinned (OpenSpec.upto flyBackSpec)

/-- 'brackenlaw15.FlySums', WHERE WHAT IT READS IS OF BULK AT MOST 1048576: true; the input reads as it did. -/
def flySumsUptoRow : OpenClaim := { program := "ytkofhmiakfmcaaa", sum := "17dd7b8bd2af873e63e7248f4092ab48eb35d6fd817ad694ebd8a248c438cc92", func := "bracken/brackenlaw15.FlySums", spec := "flySums", inPlace := ["math/bits.Sub64", "math/bits.Add64"], unfollowed := true, recurses := true, named := ["math/bits.divideError", "math/bits.overflowError"], apart := false, narrowed := true }
def FlySumsUptoSaid : Prop := flySumsUptoRow.holds Try.pinned (OpenSpec.upto flySumsSpec)

/-- 'brackenlaw15.FlyTurns', WHERE WHAT IT READS IS OF BULK AT MOST 1048576: true; the input reads as it did. -/
def flyTurnsUptoRow : OpenClaim := { program := "ytkofhmiakfmcaaa", sum := "17dd7b8bd2af873e63e7248f4092ab48eb35d6fd817ad694ebd8a248c438cc92", func := "bracken/brackenlaw15.FlyTurns", spec := "flyTurns", inPlace := ["math/bits.Sub64", "math/bits.Add64"], unfollowed := true, recurses := true, named := ["math/bits.divideError", "math/bits.overflowError"], apart := false, narrowed := true }
def FlyTurnsUptoSaid : Prop := flyTurnsUptoRow.holds Try.pinned (OpenSpec.upto flyTurnsSpec)

/-- 'brackenlaw15.FlyPoints', WHERE WHAT IT READS IS OF BULK AT MOST 1048576: true; the input reads as it did. -/
def flyPointsUptoRow : OpenClaim := { program := "ytkofhmiakfmcaaa", sum := "17dd7b8bd2af873e63e7248f4092ab48eb35d6fd817ad694ebd8a248c438cc92", func := "bracken/brackenlaw15.FlyPoints", spec := "flyPoints", inPlace := ["math/bits.Sub64", "math/bits.Add64"], unfollowed := true, recurses := true, named := ["math/bits.divideError", "math/bits.overflowError"], apart := false, narrowed := true }
def FlyPointsUptoSaid : Prop := flyPointsUptoRow.holds Try.pinned (OpenSpec.upto flyPointsSpec)

/-- 'brackenlaw15.FlyDoes', WHERE WHAT IT READS IS OF BULK AT MOST 1048576: true; the input reads as it did. -/
def flyDoesUptoRow : OpenClaim := { program := "ytkofhmiakfmcaaa", sum := "17dd7b8bd2af873e63e7248f4092ab48eb35d6fd817ad694ebd8a248c438cc92", func := "bracken/brackenlaw15.FlyDoes", spec := "flyDoes", inPlace := ["math/bits.Sub64", "math/bits.Add64"], unfollowed := true, recurses := true, named := ["math/bits.divideError", "math/bits.overflowError"], apart := false, narrowed := true }
def FlyDoesUptoSaid : Prop := flyDoesUptoRow.holds Try.pinned (OpenSpec.upto flyDoesSpec)

/-- 'brackenlaw15.FlyWeighs', WHERE WHAT IT READS IS OF BULK AT MOST 1048576: true; the input reads as it did. -/
def flyWeighsUptoRow : OpenClaim := { program := "ytkofhmiakfmcaaa", sum := "17dd7b8bd2af873e63e7248f4092ab48eb35d6fd817ad694ebd8a248c438cc92", func := "bracken/brackenlaw15.FlyWeighs", spec := "flyWeighs", inPlace := ["math/bits.Sub64", "math/bits.Add64"], unfollowed := true, recurses := true, named := ["math/bits.divideError", "math/bits.overflowError"], apart := false, narrowed := true }
def FlyWeighsUptoSaid : Prop := flyWeighsUptoRow.holds Try.pinned (OpenSpec.upto flyWeighsSpec)

end Rows
end Go.Proofs.Ytkofhmiakfmcaaa
