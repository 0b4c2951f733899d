/-
  NARROWER THAN 'FOR EVERY INPUT', by the rows' own cells (each row's printed sentence says how): FactorFew: laid · FactorTimes: laid · FactorBack: laid · FactorDoes: laid · DftWrap: laid · DftBack: laid · DftSums: laid · DftDoes: laid · FlyDft: laid · GridDoes: laid · GridBack: laid · GridOrder: laid · GridOne: laid · SeedDoes: laid · SeedSums: laid · SeedTrue: laid · SeedFalse: laid.
  DERIVED. THE GIVEN ROWS OF THIS SEAT. 17 by the template 'for every input the law returns true; each argument reads behind the call as it read before'; 0 by the template 'total and deterministic' (their statements: YtnlmmgcjhedjkaaDoorTotals.lean).
  GIVEN WITH THE SEED: the statements are not yours to turn. If you find one false, say at which input.
  Laid BY PROGRAM, IN A SANDBOX (cutbox-rows.mjs): the forced cells as the released guide's own fill.sh prints them over the translation b93f35a4f496a0aa… (all of the seat's roots in one cut). By AI agents, Wed Nov 11 2026. No macro, syntax, notation, axiom, sorry.
-/
import Derived.Test.YtnlmmgcjhedjkaaDoorChecked
import GoSem.Claim
import GoSem.ClaimJoined
import GoSem.ClaimMapViews
import Derived.JoinedTies
import Derived.KernelRfl
namespace Go.Proofs.YtnlmmgcjhedjkaaDoor
/- THE CELL 'sum', in the pinned program and in every row, IS THE sha256 OF THE DUMP (.gsa) THAT YtnlmmgcjhedjkaaDoorProg.lean LOADS. Nothing in Lean hashes anything: it is a label: what it is worth is what the hold of that sum in a sandbox is worth. -/
noncomputable def Tryd.pinned : Pinned := { name := "ytnlmmgcjhedjkaadoor", sum := "b93f35a4f496a0aa6a7b07f84101fa2ebda5a580f9749ff98463446d6cd38d15", checked := Tryd.checked }
namespace Rows
def none {H : Type} : Left H := { results := [], args := [] }

/- WHAT THE LISTED PACKAGE-LEVEL VARIABLES READ AS WHEN THE CALL BEGINS. Each datum BY PROGRAM (the guide's laid-datum.mjs) off the statement by which the dump's own 'gosem.cut.vars' lays the variable. In a bare row this is a premise. The card (YtnlmmgcjhedjkaaDoorCards.lean) ties it to the program's text. -/
def laid_math_bits_deBruijn32tab {H : Type} : DataW H := .agg [.lit (.int .u8 0), .lit (.int .u8 1), .lit (.int .u8 28), .lit (.int .u8 2), .lit (.int .u8 29), .lit (.int .u8 14), .lit (.int .u8 24), .lit (.int .u8 3), .lit (.int .u8 30), .lit (.int .u8 22), .lit (.int .u8 20), .lit (.int .u8 15), .lit (.int .u8 25), .lit (.int .u8 17), .lit (.int .u8 4), .lit (.int .u8 8), .lit (.int .u8 31), .lit (.int .u8 27), .lit (.int .u8 13), .lit (.int .u8 23), .lit (.int .u8 21), .lit (.int .u8 19), .lit (.int .u8 16), .lit (.int .u8 7), .lit (.int .u8 26), .lit (.int .u8 12), .lit (.int .u8 18), .lit (.int .u8 6), .lit (.int .u8 11), .lit (.int .u8 5), .lit (.int .u8 10), .lit (.int .u8 9)]
def laid_math_bits_deBruijn64tab {H : Type} : DataW H := .agg [.lit (.int .u8 0), .lit (.int .u8 1), .lit (.int .u8 56), .lit (.int .u8 2), .lit (.int .u8 57), .lit (.int .u8 49), .lit (.int .u8 28), .lit (.int .u8 3), .lit (.int .u8 61), .lit (.int .u8 58), .lit (.int .u8 42), .lit (.int .u8 50), .lit (.int .u8 38), .lit (.int .u8 29), .lit (.int .u8 17), .lit (.int .u8 4), .lit (.int .u8 62), .lit (.int .u8 47), .lit (.int .u8 59), .lit (.int .u8 36), .lit (.int .u8 45), .lit (.int .u8 43), .lit (.int .u8 51), .lit (.int .u8 22), .lit (.int .u8 53), .lit (.int .u8 39), .lit (.int .u8 33), .lit (.int .u8 30), .lit (.int .u8 24), .lit (.int .u8 18), .lit (.int .u8 12), .lit (.int .u8 5), .lit (.int .u8 63), .lit (.int .u8 55), .lit (.int .u8 48), .lit (.int .u8 27), .lit (.int .u8 60), .lit (.int .u8 41), .lit (.int .u8 37), .lit (.int .u8 16), .lit (.int .u8 46), .lit (.int .u8 35), .lit (.int .u8 44), .lit (.int .u8 21), .lit (.int .u8 52), .lit (.int .u8 32), .lit (.int .u8 23), .lit (.int .u8 11), .lit (.int .u8 54), .lit (.int .u8 26), .lit (.int .u8 40), .lit (.int .u8 15), .lit (.int .u8 34), .lit (.int .u8 20), .lit (.int .u8 31), .lit (.int .u8 10), .lit (.int .u8 25), .lit (.int .u8 14), .lit (.int .u8 19), .lit (.int .u8 9), .lit (.int .u8 13), .lit (.int .u8 8), .lit (.int .u8 7), .lit (.int .u8 6)]

/-- 'brackenlaw04.FactorFew': WHATEVER THE INPUT: true; the input reads as it did. -/
def factorFewSpec : ChangeSpec := { name := "factorFew", fn := fun _ => fun
  | [d1, d2, d3] => { results := [.lit (.bool true)], args := [d1, d2, d3] }
  | _ => none }
def factorFewRow : OpenClaim := { program := "ytnlmmgcjhedjkaadoor", sum := "b93f35a4f496a0aa6a7b07f84101fa2ebda5a580f9749ff98463446d6cd38d15", func := "bracken/brackenlaw04.FactorFew", spec := "factorFew", unfollowed := true, recurses := true, named := ["math/bits.deBruijn32tab", "math/bits.deBruijn64tab"], apart := false, laid := [("math/bits.deBruijn32tab", laid_math_bits_deBruijn32tab), ("math/bits.deBruijn64tab", laid_math_bits_deBruijn64tab)] }
def FactorFewSaid : Prop := factorFewRow.holds Tryd.pinned (OpenSpec.ofChange factorFewSpec)

/-- ITS FALSE NEIGHBOUR: 'it returns false'. Refute it at one input. -/
def factorFewWrong : ChangeSpec := { name := "factorFew", fn := fun _ => fun
  | [d1, d2, d3] => { results := [.lit (.bool false)], args := [d1, d2, d3] }
  | _ => none }
def FactorFewWrongFalsely : Prop := factorFewRow.holds Tryd.pinned (OpenSpec.ofChange factorFewWrong)

/-- 'brackenlaw04.FactorTimes': WHATEVER THE INPUT: true; the input reads as it did. -/
def factorTimesSpec : ChangeSpec := { name := "factorTimes", fn := fun _ => fun
  | [d1, d2] => { results := [.lit (.bool true)], args := [d1, d2] }
  | _ => none }
def factorTimesRow : OpenClaim := { program := "ytnlmmgcjhedjkaadoor", sum := "b93f35a4f496a0aa6a7b07f84101fa2ebda5a580f9749ff98463446d6cd38d15", func := "bracken/brackenlaw04.FactorTimes", spec := "factorTimes", unfollowed := true, recurses := true, named := ["math/bits.deBruijn32tab", "math/bits.deBruijn64tab"], apart := false, laid := [("math/bits.deBruijn32tab", laid_math_bits_deBruijn32tab), ("math/bits.deBruijn64tab", laid_math_bits_deBruijn64tab)] }
def FactorTimesSaid : Prop := factorTimesRow.holds Tryd.pinned (OpenSpec.ofChange factorTimesSpec)

/-- ITS FALSE NEIGHBOUR: 'it returns false'. Refute it at one input. -/
def factorTimesWrong : ChangeSpec := { name := "factorTimes", fn := fun _ => fun
  | [d1, d2] => { results := [.lit (.bool false)], args := [d1, d2] }
  | _ => none }
def FactorTimesWrongFalsely : Prop := factorTimesRow.holds Tryd.pinned (OpenSpec.ofChange factorTimesWrong)

/-- 'brackenlaw04.FactorBack': WHATEVER THE INPUT: true; the input reads as it did. -/
def factorBackSpec : ChangeSpec := { name := "factorBack", fn := fun _ => fun
  | [d] => { results := [.lit (.bool true)], args := [d] }
  | _ => none }
def factorBackRow : OpenClaim := { program := "ytnlmmgcjhedjkaadoor", sum := "b93f35a4f496a0aa6a7b07f84101fa2ebda5a580f9749ff98463446d6cd38d15", func := "bracken/brackenlaw04.FactorBack", spec := "factorBack", unfollowed := true, recurses := true, named := ["math/bits.deBruijn32tab", "math/bits.deBruijn64tab"], apart := false, laid := [("math/bits.deBruijn32tab", laid_math_bits_deBruijn32tab), ("math/bits.deBruijn64tab", laid_math_bits_deBruijn64tab)] }
def FactorBackSaid : Prop := factorBackRow.holds Tryd.pinned (OpenSpec.ofChange factorBackSpec)

/-- ITS FALSE NEIGHBOUR: 'it returns false'. Refute it at one input. -/
def factorBackWrong : ChangeSpec := { name := "factorBack", fn := fun _ => fun
  | [d] => { results := [.lit (.bool false)], args := [d] }
  | _ => none }
def FactorBackWrongFalsely : Prop := factorBackRow.holds Tryd.pinned (OpenSpec.ofChange factorBackWrong)

/-- 'brackenlaw04.FactorDoes': WHATEVER THE INPUT: true; the input reads as it did. -/
def factorDoesSpec : ChangeSpec := { name := "factorDoes", fn := fun _ => fun
  | [d1, d2] => { results := [.lit (.bool true)], args := [d1, d2] }
  | _ => none }
def factorDoesRow : OpenClaim := { program := "ytnlmmgcjhedjkaadoor", sum := "b93f35a4f496a0aa6a7b07f84101fa2ebda5a580f9749ff98463446d6cd38d15", func := "bracken/brackenlaw04.FactorDoes", spec := "factorDoes", unfollowed := true, recurses := true, named := ["math/bits.deBruijn32tab", "math/bits.deBruijn64tab"], apart := false, laid := [("math/bits.deBruijn32tab", laid_math_bits_deBruijn32tab), ("math/bits.deBruijn64tab", laid_math_bits_deBruijn64tab)] }
def FactorDoesSaid : Prop := factorDoesRow.holds Tryd.pinned (OpenSpec.ofChange factorDoesSpec)

/-- ITS FALSE NEIGHBOUR: 'it returns false'. Refute it at one input. -/
def factorDoesWrong : ChangeSpec := { name := "factorDoes", fn := fun _ => fun
  | [d1, d2] => { results := [.lit (.bool false)], args := [d1, d2] }
  | _ => none }
def FactorDoesWrongFalsely : Prop := factorDoesRow.holds Tryd.pinned (OpenSpec.ofChange factorDoesWrong)

/-- 'brackenlaw06.DftWrap': WHATEVER THE INPUT: true; the input reads as it did. -/
def dftWrapSpec : ChangeSpec := { name := "dftWrap", fn := fun _ => fun
  | [d1, d2, d3, d4] => { results := [.lit (.bool true)], args := [d1, d2, d3, d4] }
  | _ => none }
def dftWrapRow : OpenClaim := { program := "ytnlmmgcjhedjkaadoor", sum := "b93f35a4f496a0aa6a7b07f84101fa2ebda5a580f9749ff98463446d6cd38d15", func := "bracken/brackenlaw06.DftWrap", spec := "dftWrap", inPlace := ["math/bits.Sub64", "math/bits.Add64"], unfollowed := true, recurses := true, named := ["math/bits.deBruijn32tab", "math/bits.deBruijn64tab", "math/bits.divideError", "math/bits.overflowError"], apart := false, laid := [("math/bits.deBruijn32tab", laid_math_bits_deBruijn32tab), ("math/bits.deBruijn64tab", laid_math_bits_deBruijn64tab)] }
def DftWrapSaid : Prop := dftWrapRow.holds Tryd.pinned (OpenSpec.ofChange dftWrapSpec)

/-- ITS FALSE NEIGHBOUR: 'it returns false'. Refute it at one input. -/
def dftWrapWrong : ChangeSpec := { name := "dftWrap", fn := fun _ => fun
  | [d1, d2, d3, d4] => { results := [.lit (.bool false)], args := [d1, d2, d3, d4] }
  | _ => none }
def DftWrapWrongFalsely : Prop := dftWrapRow.holds Tryd.pinned (OpenSpec.ofChange dftWrapWrong)

/-- 'brackenlaw06.DftBack': WHATEVER THE INPUT: true; the input reads as it did. -/
def dftBackSpec : ChangeSpec := { name := "dftBack", fn := fun _ => fun
  | [d1, d2, d3] => { results := [.lit (.bool true)], args := [d1, d2, d3] }
  | _ => none }
def dftBackRow : OpenClaim := { program := "ytnlmmgcjhedjkaadoor", sum := "b93f35a4f496a0aa6a7b07f84101fa2ebda5a580f9749ff98463446d6cd38d15", func := "bracken/brackenlaw06.DftBack", spec := "dftBack", inPlace := ["math/bits.Sub64", "math/bits.Add64"], unfollowed := true, recurses := true, named := ["math/bits.deBruijn32tab", "math/bits.deBruijn64tab", "math/bits.divideError", "math/bits.overflowError"], apart := false, laid := [("math/bits.deBruijn32tab", laid_math_bits_deBruijn32tab), ("math/bits.deBruijn64tab", laid_math_bits_deBruijn64tab)] }
def DftBackSaid : Prop := dftBackRow.holds Tryd.pinned (OpenSpec.ofChange dftBackSpec)

/-- ITS FALSE NEIGHBOUR: 'it returns false'. Refute it at one input. -/
def dftBackWrong : ChangeSpec := { name := "dftBack", fn := fun _ => fun
  | [d1, d2, d3] => { results := [.lit (.bool false)], args := [d1, d2, d3] }
  | _ => none }
def DftBackWrongFalsely : Prop := dftBackRow.holds Tryd.pinned (OpenSpec.ofChange dftBackWrong)

/-- 'brackenlaw06.DftSums': WHATEVER THE INPUT: true; the input reads as it did. -/
def dftSumsSpec : ChangeSpec := { name := "dftSums", fn := fun _ => fun
  | [d1, d2, d3, d4, d5] => { results := [.lit (.bool true)], args := [d1, d2, d3, d4, d5] }
  | _ => none }
def dftSumsRow : OpenClaim := { program := "ytnlmmgcjhedjkaadoor", sum := "b93f35a4f496a0aa6a7b07f84101fa2ebda5a580f9749ff98463446d6cd38d15", func := "bracken/brackenlaw06.DftSums", spec := "dftSums", inPlace := ["math/bits.Sub64", "math/bits.Add64"], unfollowed := true, recurses := true, named := ["math/bits.deBruijn32tab", "math/bits.deBruijn64tab", "math/bits.divideError", "math/bits.overflowError"], apart := false, laid := [("math/bits.deBruijn32tab", laid_math_bits_deBruijn32tab), ("math/bits.deBruijn64tab", laid_math_bits_deBruijn64tab)] }
def DftSumsSaid : Prop := dftSumsRow.holds Tryd.pinned (OpenSpec.ofChange dftSumsSpec)

/-- ITS FALSE NEIGHBOUR: 'it returns false'. Refute it at one input. -/
def dftSumsWrong : ChangeSpec := { name := "dftSums", fn := fun _ => fun
  | [d1, d2, d3, d4, d5] => { results := [.lit (.bool false)], args := [d1, d2, d3, d4, d5] }
  | _ => none }
def DftSumsWrongFalsely : Prop := dftSumsRow.holds Tryd.pinned (OpenSpec.ofChange dftSumsWrong)

/-- 'brackenlaw06.DftDoes': WHATEVER THE INPUT: true; the input reads as it did. -/
def dftDoesSpec : ChangeSpec := { name := "dftDoes", fn := fun _ => fun
  | [d1, d2, d3, d4] => { results := [.lit (.bool true)], args := [d1, d2, d3, d4] }
  | _ => none }
def dftDoesRow : OpenClaim := { program := "ytnlmmgcjhedjkaadoor", sum := "b93f35a4f496a0aa6a7b07f84101fa2ebda5a580f9749ff98463446d6cd38d15", func := "bracken/brackenlaw06.DftDoes", spec := "dftDoes", inPlace := ["math/bits.Sub64", "math/bits.Add64"], unfollowed := true, recurses := true, named := ["math/bits.deBruijn32tab", "math/bits.deBruijn64tab", "math/bits.divideError", "math/bits.overflowError"], apart := false, laid := [("math/bits.deBruijn32tab", laid_math_bits_deBruijn32tab), ("math/bits.deBruijn64tab", laid_math_bits_deBruijn64tab)] }
def DftDoesSaid : Prop := dftDoesRow.holds Tryd.pinned (OpenSpec.ofChange dftDoesSpec)

/-- ITS FALSE NEIGHBOUR: 'it returns false'. Refute it at one input. -/
def dftDoesWrong : ChangeSpec := { name := "dftDoes", fn := fun _ => fun
  | [d1, d2, d3, d4] => { results := [.lit (.bool false)], args := [d1, d2, d3, d4] }
  | _ => none }
def DftDoesWrongFalsely : Prop := dftDoesRow.holds Tryd.pinned (OpenSpec.ofChange dftDoesWrong)

/-- 'brackenlaw15.FlyDft': WHATEVER THE INPUT: true; the input reads as it did. -/
def flyDftSpec : ChangeSpec := { name := "flyDft", fn := fun _ => fun
  | [d1, d2, d3] => { results := [.lit (.bool true)], args := [d1, d2, d3] }
  | _ => none }
def flyDftRow : OpenClaim := { program := "ytnlmmgcjhedjkaadoor", sum := "b93f35a4f496a0aa6a7b07f84101fa2ebda5a580f9749ff98463446d6cd38d15", func := "bracken/brackenlaw15.FlyDft", spec := "flyDft", inPlace := ["math/bits.Sub64", "math/bits.Add64"], unfollowed := true, recurses := true, named := ["math/bits.divideError", "math/bits.overflowError", "math/bits.deBruijn32tab", "math/bits.deBruijn64tab"], apart := false, laid := [("math/bits.deBruijn32tab", laid_math_bits_deBruijn32tab), ("math/bits.deBruijn64tab", laid_math_bits_deBruijn64tab)] }
def FlyDftSaid : Prop := flyDftRow.holds Tryd.pinned (OpenSpec.ofChange flyDftSpec)

/-- ITS FALSE NEIGHBOUR: 'it returns false'. Refute it at one input. -/
def flyDftWrong : ChangeSpec := { name := "flyDft", fn := fun _ => fun
  | [d1, d2, d3] => { results := [.lit (.bool false)], args := [d1, d2, d3] }
  | _ => none }
def FlyDftWrongFalsely : Prop := flyDftRow.holds Tryd.pinned (OpenSpec.ofChange flyDftWrong)

/-- 'brackenlaw07.GridDoes': WHATEVER THE INPUT: true; the input reads as it did. -/
def gridDoesSpec : ChangeSpec := { name := "gridDoes", fn := fun _ => fun
  | [d1, d2, d3, d4, d5] => { results := [.lit (.bool true)], args := [d1, d2, d3, d4, d5] }
  | _ => none }
def gridDoesRow : OpenClaim := { program := "ytnlmmgcjhedjkaadoor", sum := "b93f35a4f496a0aa6a7b07f84101fa2ebda5a580f9749ff98463446d6cd38d15", func := "bracken/brackenlaw07.GridDoes", spec := "gridDoes", inPlace := ["math/bits.Sub64", "math/bits.Add64"], unfollowed := true, recurses := true, named := ["math/bits.deBruijn32tab", "math/bits.deBruijn64tab", "math/bits.divideError", "math/bits.overflowError"], apart := false, laid := [("math/bits.deBruijn32tab", laid_math_bits_deBruijn32tab), ("math/bits.deBruijn64tab", laid_math_bits_deBruijn64tab)] }
def GridDoesSaid : Prop := gridDoesRow.holds Tryd.pinned (OpenSpec.ofChange gridDoesSpec)

/-- ITS FALSE NEIGHBOUR: 'it returns false'. Refute it at one input. -/
def gridDoesWrong : ChangeSpec := { name := "gridDoes", fn := fun _ => fun
  | [d1, d2, d3, d4, d5] => { results := [.lit (.bool false)], args := [d1, d2, d3, d4, d5] }
  | _ => none }
def GridDoesWrongFalsely : Prop := gridDoesRow.holds Tryd.pinned (OpenSpec.ofChange gridDoesWrong)

/-- 'brackenlaw07.GridBack': WHATEVER THE INPUT: true; the input reads as it did. -/
def gridBackSpec : ChangeSpec := { name := "gridBack", fn := fun _ => fun
  | [d1, d2, d3, d4] => { results := [.lit (.bool true)], args := [d1, d2, d3, d4] }
  | _ => none }
def gridBackRow : OpenClaim := { program := "ytnlmmgcjhedjkaadoor", sum := "b93f35a4f496a0aa6a7b07f84101fa2ebda5a580f9749ff98463446d6cd38d15", func := "bracken/brackenlaw07.GridBack", spec := "gridBack", inPlace := ["math/bits.Sub64", "math/bits.Add64"], unfollowed := true, recurses := true, named := ["math/bits.deBruijn32tab", "math/bits.deBruijn64tab", "math/bits.divideError", "math/bits.overflowError"], apart := false, laid := [("math/bits.deBruijn32tab", laid_math_bits_deBruijn32tab), ("math/bits.deBruijn64tab", laid_math_bits_deBruijn64tab)] }
def GridBackSaid : Prop := gridBackRow.holds Tryd.pinned (OpenSpec.ofChange gridBackSpec)

/-- ITS FALSE NEIGHBOUR: 'it returns false'. Refute it at one input. -/
def gridBackWrong : ChangeSpec := { name := "gridBack", fn := fun _ => fun
  | [d1, d2, d3, d4] => { results := [.lit (.bool false)], args := [d1, d2, d3, d4] }
  | _ => none }
def GridBackWrongFalsely : Prop := gridBackRow.holds Tryd.pinned (OpenSpec.ofChange gridBackWrong)

/-- 'brackenlaw07.GridOrder': WHATEVER THE INPUT: true; the input reads as it did. -/
def gridOrderSpec : ChangeSpec := { name := "gridOrder", fn := fun _ => fun
  | [d1, d2, d3, d4, d5, d6] => { results := [.lit (.bool true)], args := [d1, d2, d3, d4, d5, d6] }
  | _ => none }
def gridOrderRow : OpenClaim := { program := "ytnlmmgcjhedjkaadoor", sum := "b93f35a4f496a0aa6a7b07f84101fa2ebda5a580f9749ff98463446d6cd38d15", func := "bracken/brackenlaw07.GridOrder", spec := "gridOrder", inPlace := ["math/bits.Sub64", "math/bits.Add64"], unfollowed := true, recurses := true, named := ["math/bits.deBruijn32tab", "math/bits.deBruijn64tab", "math/bits.divideError", "math/bits.overflowError"], apart := false, laid := [("math/bits.deBruijn32tab", laid_math_bits_deBruijn32tab), ("math/bits.deBruijn64tab", laid_math_bits_deBruijn64tab)] }
def GridOrderSaid : Prop := gridOrderRow.holds Tryd.pinned (OpenSpec.ofChange gridOrderSpec)

/-- ITS FALSE NEIGHBOUR: 'it returns false'. Refute it at one input. -/
def gridOrderWrong : ChangeSpec := { name := "gridOrder", fn := fun _ => fun
  | [d1, d2, d3, d4, d5, d6] => { results := [.lit (.bool false)], args := [d1, d2, d3, d4, d5, d6] }
  | _ => none }
def GridOrderWrongFalsely : Prop := gridOrderRow.holds Tryd.pinned (OpenSpec.ofChange gridOrderWrong)

/-- 'brackenlaw07.GridOne': WHATEVER THE INPUT: true; the input reads as it did. -/
def gridOneSpec : ChangeSpec := { name := "gridOne", fn := fun _ => fun
  | [d1, d2, d3, d4, d5] => { results := [.lit (.bool true)], args := [d1, d2, d3, d4, d5] }
  | _ => none }
def gridOneRow : OpenClaim := { program := "ytnlmmgcjhedjkaadoor", sum := "b93f35a4f496a0aa6a7b07f84101fa2ebda5a580f9749ff98463446d6cd38d15", func := "bracken/brackenlaw07.GridOne", spec := "gridOne", inPlace := ["math/bits.Sub64", "math/bits.Add64"], unfollowed := true, recurses := true, named := ["math/bits.deBruijn32tab", "math/bits.deBruijn64tab", "math/bits.divideError", "math/bits.overflowError"], apart := false, laid := [("math/bits.deBruijn32tab", laid_math_bits_deBruijn32tab), ("math/bits.deBruijn64tab", laid_math_bits_deBruijn64tab)] }
def GridOneSaid : Prop := gridOneRow.holds Tryd.pinned (OpenSpec.ofChange gridOneSpec)

/-- ITS FALSE NEIGHBOUR: 'it returns false'. Refute it at one input. -/
def gridOneWrong : ChangeSpec := { name := "gridOne", fn := fun _ => fun
  | [d1, d2, d3, d4, d5] => { results := [.lit (.bool false)], args := [d1, d2, d3, d4, d5] }
  | _ => none }
def GridOneWrongFalsely : Prop := gridOneRow.holds Tryd.pinned (OpenSpec.ofChange gridOneWrong)

/-- 'brackenlaw09.SeedDoes': WHATEVER THE INPUT: true; the input reads as it did. -/
def seedDoesSpec : ChangeSpec := { name := "seedDoes", fn := fun _ => fun
  | [d1, d2, d3, d4, d5, d6, d7, d8, d9] => { results := [.lit (.bool true)], args := [d1, d2, d3, d4, d5, d6, d7, d8, d9] }
  | _ => none }
def seedDoesRow : OpenClaim := { program := "ytnlmmgcjhedjkaadoor", sum := "b93f35a4f496a0aa6a7b07f84101fa2ebda5a580f9749ff98463446d6cd38d15", func := "bracken/brackenlaw09.SeedDoes", spec := "seedDoes", inPlace := ["math/bits.Sub64", "math/bits.Add64"], unfollowed := true, recurses := true, named := ["math/bits.deBruijn32tab", "math/bits.deBruijn64tab", "math/bits.divideError", "math/bits.overflowError"], apart := false, laid := [("math/bits.deBruijn32tab", laid_math_bits_deBruijn32tab), ("math/bits.deBruijn64tab", laid_math_bits_deBruijn64tab)] }
def SeedDoesSaid : Prop := seedDoesRow.holds Tryd.pinned (OpenSpec.ofChange seedDoesSpec)

/-- ITS FALSE NEIGHBOUR: 'it returns false'. Refute it at one input. -/
def seedDoesWrong : ChangeSpec := { name := "seedDoes", fn := fun _ => fun
  | [d1, d2, d3, d4, d5, d6, d7, d8, d9] => { results := [.lit (.bool false)], args := [d1, d2, d3, d4, d5, d6, d7, d8, d9] }
  | _ => none }
def SeedDoesWrongFalsely : Prop := seedDoesRow.holds Tryd.pinned (OpenSpec.ofChange seedDoesWrong)

/-- 'brackenlaw09.SeedSums': WHATEVER THE INPUT: true; the input reads as it did. -/
def seedSumsSpec : ChangeSpec := { name := "seedSums", fn := fun _ => fun
  | [d1, d2, d3, d4, d5] => { results := [.lit (.bool true)], args := [d1, d2, d3, d4, d5] }
  | _ => none }
def seedSumsRow : OpenClaim := { program := "ytnlmmgcjhedjkaadoor", sum := "b93f35a4f496a0aa6a7b07f84101fa2ebda5a580f9749ff98463446d6cd38d15", func := "bracken/brackenlaw09.SeedSums", spec := "seedSums", inPlace := ["math/bits.Sub64", "math/bits.Add64"], unfollowed := true, recurses := true, named := ["math/bits.deBruijn32tab", "math/bits.deBruijn64tab", "math/bits.divideError", "math/bits.overflowError"], apart := false, laid := [("math/bits.deBruijn32tab", laid_math_bits_deBruijn32tab), ("math/bits.deBruijn64tab", laid_math_bits_deBruijn64tab)] }
def SeedSumsSaid : Prop := seedSumsRow.holds Tryd.pinned (OpenSpec.ofChange seedSumsSpec)

/-- ITS FALSE NEIGHBOUR: 'it returns false'. Refute it at one input. -/
def seedSumsWrong : ChangeSpec := { name := "seedSums", fn := fun _ => fun
  | [d1, d2, d3, d4, d5] => { results := [.lit (.bool false)], args := [d1, d2, d3, d4, d5] }
  | _ => none }
def SeedSumsWrongFalsely : Prop := seedSumsRow.holds Tryd.pinned (OpenSpec.ofChange seedSumsWrong)

/-- 'brackenlaw09.SeedTrue': WHATEVER THE INPUT: true; the input reads as it did. -/
def seedTrueSpec : ChangeSpec := { name := "seedTrue", fn := fun _ => fun
  | [d1, d2, d3, d4, d5] => { results := [.lit (.bool true)], args := [d1, d2, d3, d4, d5] }
  | _ => none }
def seedTrueRow : OpenClaim := { program := "ytnlmmgcjhedjkaadoor", sum := "b93f35a4f496a0aa6a7b07f84101fa2ebda5a580f9749ff98463446d6cd38d15", func := "bracken/brackenlaw09.SeedTrue", spec := "seedTrue", inPlace := ["math/bits.Sub64", "math/bits.Add64"], unfollowed := true, recurses := true, named := ["math/bits.deBruijn32tab", "math/bits.deBruijn64tab", "math/bits.divideError", "math/bits.overflowError"], apart := false, laid := [("math/bits.deBruijn32tab", laid_math_bits_deBruijn32tab), ("math/bits.deBruijn64tab", laid_math_bits_deBruijn64tab)] }
def SeedTrueSaid : Prop := seedTrueRow.holds Tryd.pinned (OpenSpec.ofChange seedTrueSpec)

/-- ITS FALSE NEIGHBOUR: 'it returns false'. Refute it at one input. -/
def seedTrueWrong : ChangeSpec := { name := "seedTrue", fn := fun _ => fun
  | [d1, d2, d3, d4, d5] => { results := [.lit (.bool false)], args := [d1, d2, d3, d4, d5] }
  | _ => none }
def SeedTrueWrongFalsely : Prop := seedTrueRow.holds Tryd.pinned (OpenSpec.ofChange seedTrueWrong)

/-- 'brackenlaw09.SeedFalse': WHATEVER THE INPUT: true; the input reads as it did. -/
def seedFalseSpec : ChangeSpec := { name := "seedFalse", fn := fun _ => fun
  | [d1, d2, d3, d4, d5, d6] => { results := [.lit (.bool true)], args := [d1, d2, d3, d4, d5, d6] }
  | _ => none }
def seedFalseRow : OpenClaim := { program := "ytnlmmgcjhedjkaadoor", sum := "b93f35a4f496a0aa6a7b07f84101fa2ebda5a580f9749ff98463446d6cd38d15", func := "bracken/brackenlaw09.SeedFalse", spec := "seedFalse", inPlace := ["math/bits.Sub64", "math/bits.Add64"], unfollowed := true, recurses := true, named := ["math/bits.deBruijn32tab", "math/bits.deBruijn64tab", "math/bits.divideError", "math/bits.overflowError"], apart := false, laid := [("math/bits.deBruijn32tab", laid_math_bits_deBruijn32tab), ("math/bits.deBruijn64tab", laid_math_bits_deBruijn64tab)] }
def SeedFalseSaid : Prop := seedFalseRow.holds Tryd.pinned (OpenSpec.ofChange seedFalseSpec)

/-- ITS FALSE NEIGHBOUR: 'it returns false'. Refute it at one input. -/
def seedFalseWrong : ChangeSpec := { name := "seedFalse", fn := fun _ => fun
  | [d1, d2, d3, d4, d5, d6] => { results := [.lit (.bool false)], args := [d1, d2, d3, d4, d5, d6] }
  | _ => none }
def SeedFalseWrongFalsely : Prop := seedFalseRow.holds Tryd.pinned (OpenSpec.ofChange seedFalseWrong)

/- THE SECOND FORM. 'bulk': how many values and letters a reading holds, each counted each time it is reached (what is shared counts as often as it is met; a slice's spare places count too). A statement '..UptoSaid' is the law's where the arguments, and the package variables that the reading takes, are together of bulk at most 1048576: NARROWER than '..Said'. Prove '..Said' where nothing that the law and all that it calls make is longer than what came in: it says more and counts as full. Else prove '..UptoSaid'. A law counts once. -/
mutual
def uptoBulk {H : Type} : DataW H → Nat
  | .lit (.string bytes) => bytes.length + 1
  | .lit _ => 1
  | .nil => 1
  | .ptr d => uptoBulk d + 1
  | .slice elems spare => uptoBulkAll elems + uptoBulkAll spare + 1
  | .agg parts => uptoBulkAll parts + 1
  | .iface _ d => uptoBulk d + 1
  | .map entries => uptoBulkEntries entries + 1
  | .held _ => 1
def uptoBulkAll {H : Type} : List (DataW H) → Nat
  | [] => 0
  | d :: r => uptoBulk d + uptoBulkAll r
def uptoBulkEntries {H : Type} : List (Lit × DataW H) → Nat
  | [] => 0
  | x :: r => uptoBulkEntry x + uptoBulkEntries r
def uptoBulkEntry {H : Type} : Lit × DataW H → Nat
  | (.string bytes, d) => bytes.length + uptoBulk d + 1
  | (_, d) => uptoBulk d + 1
 end
def uptoSmall : (H : Type) → List (DataW H) → Bool := fun _ ds => decide (uptoBulkAll ds ≤ 1048576)
def OpenSpec.upto (s : _root_.Go.ChangeSpec) : _root_.Go.OpenSpec := { _root_.Go.OpenSpec.ofChange s with cond := some uptoSmall }

/-- 'brackenlaw04.FactorFew', WHERE WHAT IT READS IS OF BULK AT MOST 1048576: true; the input reads as it did. -/
def factorFewUptoRow : OpenClaim := { program := "ytnlmmgcjhedjkaadoor", sum := "b93f35a4f496a0aa6a7b07f84101fa2ebda5a580f9749ff98463446d6cd38d15", func := "bracken/brackenlaw04.FactorFew", spec := "factorFew", unfollowed := true, recurses := true, named := ["math/bits.deBruijn32tab", "math/bits.deBruijn64tab"], apart := false, laid := [("math/bits.deBruijn32tab", laid_math_bits_deBruijn32tab), ("math/bits.deBruijn64tab", laid_math_bits_deBruijn64tab)], narrowed := true }
def FactorFewUptoSaid : Prop := factorFewUptoRow.holds Tryd.pinned (OpenSpec.upto factorFewSpec)

/-- 'brackenlaw04.FactorTimes', WHERE WHAT IT READS IS OF BULK AT MOST 1048576: true; the input reads as it did. -/
def factorTimesUptoRow : OpenClaim := { program := "ytnlmmgcjhedjkaadoor", sum := "b93f35a4f496a0aa6a7b07f84101fa2ebda5a580f9749ff98463446d6cd38d15", func := "bracken/brackenlaw04.FactorTimes", spec := "factorTimes", unfollowed := true, recurses := true, named := ["math/bits.deBruijn32tab", "math/bits.deBruijn64tab"], apart := false, laid := [("math/bits.deBruijn32tab", laid_math_bits_deBruijn32tab), ("math/bits.deBruijn64tab", laid_math_bits_deBruijn64tab)], narrowed := true }
def FactorTimesUptoSaid : Prop := factorTimesUptoRow.holds Tryd.pinned (OpenSpec.upto factorTimesSpec)

/-- 'brackenlaw04.FactorBack', WHERE WHAT IT READS IS OF BULK AT MOST 1048576: true; the input reads as it did. -/
def factorBackUptoRow : OpenClaim := { program := "ytnlmmgcjhedjkaadoor", sum := "b93f35a4f496a0aa6a7b07f84101fa2ebda5a580f9749ff98463446d6cd38d15", func := "bracken/brackenlaw04.FactorBack", spec := "factorBack", unfollowed := true, recurses := true, named := ["math/bits.deBruijn32tab", "math/bits.deBruijn64tab"], apart := false, laid := [("math/bits.deBruijn32tab", laid_math_bits_deBruijn32tab), ("math/bits.deBruijn64tab", laid_math_bits_deBruijn64tab)], narrowed := true }
def FactorBackUptoSaid : Prop := factorBackUptoRow.holds Tryd.pinned (OpenSpec.upto factorBackSpec)

/-- 'brackenlaw04.FactorDoes', WHERE WHAT IT READS IS OF BULK AT MOST 1048576: true; the input reads as it did. -/
def factorDoesUptoRow : OpenClaim := { program := "ytnlmmgcjhedjkaadoor", sum := "b93f35a4f496a0aa6a7b07f84101fa2ebda5a580f9749ff98463446d6cd38d15", func := "bracken/brackenlaw04.FactorDoes", spec := "factorDoes", unfollowed := true, recurses := true, named := ["math/bits.deBruijn32tab", "math/bits.deBruijn64tab"], apart := false, laid := [("math/bits.deBruijn32tab", laid_math_bits_deBruijn32tab), ("math/bits.deBruijn64tab", laid_math_bits_deBruijn64tab)], narrowed := true }
def FactorDoesUptoSaid : Prop := factorDoesUptoRow.holds Tryd.pinned (OpenSpec.upto factorDoesSpec)

/-- 'brackenlaw06.DftWrap', WHERE WHAT IT READS IS OF BULK AT MOST 1048576: true; the input reads as it did. -/
def dftWrapUptoRow : OpenClaim := { program := "ytnlmmgcjhedjkaadoor", sum := "b93f35a4f496a0aa6a7b07f84101fa2ebda5a580f9749ff98463446d6cd38d15", func := "bracken/brackenlaw06.DftWrap", spec := "dftWrap", inPlace := ["math/bits.Sub64", "math/bits.Add64"], unfollowed := true, recurses := true, named := ["math/bits.deBruijn32tab", "math/bits.deBruijn64tab", "math/bits.divideError", "math/bits.overflowError"], apart := false, laid := [("math/bits.deBruijn32tab", laid_math_bits_deBruijn32tab), ("math/bits.deBruijn64tab", laid_math_bits_deBruijn64tab)], narrowed := true }
def DftWrapUptoSaid : Prop := dftWrapUptoRow.holds Tryd.pinned (OpenSpec.upto dftWrapSpec)

/-- 'brackenlaw06.DftBack', WHERE WHAT IT READS IS OF BULK AT MOST 1048576: true; the input reads as it did. -/
def dftBackUptoRow : OpenClaim := { program := "ytnlmmgcjhedjkaadoor", sum := "b93f35a4f496a0aa6a7b07f84101fa2ebda5a580f9749ff98463446d6cd38d15", func := "bracken/brackenlaw06.DftBack", spec := "dftBack", inPlace := ["math/bits.Sub64", "math/bits.Add64"], unfollowed := true, recurses := true, named := ["math/bits.deBruijn32tab", "math/bits.deBruijn64tab", "math/bits.divideError", "math/bits.overflowError"], apart := false, laid := [("math/bits.deBruijn32tab", laid_math_bits_deBruijn32tab), ("math/bits.deBruijn64tab", laid_math_bits_deBruijn64tab)], narrowed := true }
def DftBackUptoSaid : Prop := dftBackUptoRow.holds Tryd.pinned (OpenSpec.upto dftBackSpec)

/-- 'brackenlaw06.DftSums', WHERE WHAT IT READS IS OF BULK AT MOST 1048576: true; the input reads as it did. -/
def dftSumsUptoRow : OpenClaim := { program := "ytnlmmgcjhedjkaadoor", sum := "b93f35a4f496a0aa6a7b07f84101fa2ebda5a580f9749ff98463446d6cd38d15", func := "bracken/brackenlaw06.DftSums", spec := "dftSums", inPlace := ["math/bits.Sub64", "math/bits.Add64"], unfollowed := true, recurses := true, named := ["math/bits.deBruijn32tab", "math/bits.deBruijn64tab", "math/bits.divideError", "math/bits.overflowError"], apart := false, laid := [("math/bits.deBruijn32tab", laid_math_bits_deBruijn32tab), ("math/bits.deBruijn64tab", laid_math_bits_deBruijn64tab)], narrowed := true }
def DftSumsUptoSaid : Prop := dftSumsUptoRow.holds Tryd.pinned (OpenSpec.upto dftSumsSpec)

/-- 'brackenlaw06.DftDoes', WHERE WHAT IT READS IS OF BULK AT MOST 1048576: true; the input reads as it did. -/
def dftDoesUptoRow : OpenClaim := { program := "ytnlmmgcjhedjkaadoor", sum := "b93f35a4f496a0aa6a7b07f84101fa2ebda5a580f9749ff98463446d6cd38d15", func := "bracken/brackenlaw06.DftDoes", spec := "dftDoes", inPlace := ["math/bits.Sub64", "math/bits.Add64"], unfollowed := true, recurses := true, named := ["math/bits.deBruijn32tab", "math/bits.deBruijn64tab", "math/bits.divideError", "math/bits.overflowError"], apart := false, laid := [("math/bits.deBruijn32tab", laid_math_bits_deBruijn32tab), ("math/bits.deBruijn64tab", laid_math_bits_deBruijn64tab)], narrowed := true }
def DftDoesUptoSaid : Prop := dftDoesUptoRow.holds Tryd.pinned (OpenSpec.upto dftDoesSpec)

/-- 'brackenlaw15.FlyDft', WHERE WHAT IT READS IS OF BULK AT MOST 1048576: true; the input reads as it did. -/
def flyDftUptoRow : OpenClaim := { program := "ytnlmmgcjhedjkaadoor", sum := "b93f35a4f496a0aa6a7b07f84101fa2ebda5a580f9749ff98463446d6cd38d15", func := "bracken/brackenlaw15.FlyDft", spec := "flyDft", inPlace := ["math/bits.Sub64", "math/bits.Add64"], unfollowed := true, recurses := true, named := ["math/bits.divideError", "math/bits.overflowError", "math/bits.deBruijn32tab", "math/bits.deBruijn64tab"], apart := false, laid := [("math/bits.deBruijn32tab", laid_math_bits_deBruijn32tab), ("math/bits.deBruijn64tab", laid_math_bits_deBruijn64tab)], narrowed := true }
def FlyDftUptoSaid : Prop := flyDftUptoRow.holds Tryd.pinned (OpenSpec.upto flyDftSpec)

/-- 'brackenlaw07.GridDoes', WHERE WHAT IT READS IS OF BULK AT MOST 1048576: true; the input reads as it did. -/
def gridDoesUptoRow : OpenClaim := { program := "ytnlmmgcjhedjkaadoor", sum := "b93f35a4f496a0aa6a7b07f84101fa2ebda5a580f9749ff98463446d6cd38d15", func := "bracken/brackenlaw07.GridDoes", spec := "gridDoes", inPlace := ["math/bits.Sub64", "math/bits.Add64"], unfollowed := true, recurses := true, named := ["math/bits.deBruijn32tab", "math/bits.deBruijn64tab", "math/bits.divideError", "math/bits.overflowError"], apart := false, laid := [("math/bits.deBruijn32tab", laid_math_bits_deBruijn32tab), ("math/bits.deBruijn64tab", laid_math_bits_deBruijn64tab)], narrowed := true }
def GridDoesUptoSaid : Prop := gridDoesUptoRow.holds Tryd.pinned (OpenSpec.upto gridDoesSpec)

/-- 'brackenlaw07.GridBack', WHERE WHAT IT READS IS OF BULK AT MOST 1048576: true; the input reads as it did. -/
def gridBackUptoRow : OpenClaim := { program := "ytnlmmgcjhedjkaadoor", sum := "b93f35a4f496a0aa6a7b07f84101fa2ebda5a580f9749ff98463446d6cd38d15", func := "bracken/brackenlaw07.GridBack", spec := "gridBack", inPlace := ["math/bits.Sub64", "math/bits.Add64"], unfollowed := true, recurses := true, named := ["math/bits.deBruijn32tab", "math/bits.deBruijn64tab", "math/bits.divideError", "math/bits.overflowError"], apart := false, laid := [("math/bits.deBruijn32tab", laid_math_bits_deBruijn32tab), ("math/bits.deBruijn64tab", laid_math_bits_deBruijn64tab)], narrowed := true }
def GridBackUptoSaid : Prop := gridBackUptoRow.holds Tryd.pinned (OpenSpec.upto gridBackSpec)

/-- 'brackenlaw07.GridOrder', WHERE WHAT IT READS IS OF BULK AT MOST 1048576: true; the input reads as it did. -/
def gridOrderUptoRow : OpenClaim := { program := "ytnlmmgcjhedjkaadoor", sum := "b93f35a4f496a0aa6a7b07f84101fa2ebda5a580f9749ff98463446d6cd38d15", func := "bracken/brackenlaw07.GridOrder", spec := "gridOrder", inPlace := ["math/bits.Sub64", "math/bits.Add64"], unfollowed := true, recurses := true, named := ["math/bits.deBruijn32tab", "math/bits.deBruijn64tab", "math/bits.divideError", "math/bits.overflowError"], apart := false, laid := [("math/bits.deBruijn32tab", laid_math_bits_deBruijn32tab), ("math/bits.deBruijn64tab", laid_math_bits_deBruijn64tab)], narrowed := true }
def GridOrderUptoSaid : Prop := gridOrderUptoRow.holds Tryd.pinned (OpenSpec.upto gridOrderSpec)

/-- 'brackenlaw07.GridOne', WHERE WHAT IT READS IS OF BULK AT MOST 1048576: true; the input reads as it did. -/
def gridOneUptoRow : OpenClaim := { program := "ytnlmmgcjhedjkaadoor", sum := "b93f35a4f496a0aa6a7b07f84101fa2ebda5a580f9749ff98463446d6cd38d15", func := "bracken/brackenlaw07.GridOne", spec := "gridOne", inPlace := ["math/bits.Sub64", "math/bits.Add64"], unfollowed := true, recurses := true, named := ["math/bits.deBruijn32tab", "math/bits.deBruijn64tab", "math/bits.divideError", "math/bits.overflowError"], apart := false, laid := [("math/bits.deBruijn32tab", laid_math_bits_deBruijn32tab), ("math/bits.deBruijn64tab", laid_math_bits_deBruijn64tab)], narrowed := true }
def GridOneUptoSaid : Prop := gridOneUptoRow.holds Tryd.pinned (OpenSpec.upto gridOneSpec)

/-- 'brackenlaw09.SeedDoes', WHERE WHAT IT READS IS OF BULK AT MOST 1048576: true; the input reads as it did. -/
def seedDoesUptoRow : OpenClaim := { program := "ytnlmmgcjhedjkaadoor", sum := "b93f35a4f496a0aa6a7b07f84101fa2ebda5a580f9749ff98463446d6cd38d15", func := "bracken/brackenlaw09.SeedDoes", spec := "seedDoes", inPlace := ["math/bits.Sub64", "math/bits.Add64"], unfollowed := true, recurses := true, named := ["math/bits.deBruijn32tab", "math/bits.deBruijn64tab", "math/bits.divideError", "math/bits.overflowError"], apart := false, laid := [("math/bits.deBruijn32tab", laid_math_bits_deBruijn32tab), ("math/bits.deBruijn64tab", laid_math_bits_deBruijn64tab)], narrowed := true }
def SeedDoesUptoSaid : Prop := seedDoesUptoRow.holds Tryd.pinned (OpenSpec.upto seedDoesSpec)

/-- 'brackenlaw09.SeedSums', WHERE WHAT IT READS IS OF BULK AT MOST 1048576: true; the input reads as it did. -/
def seedSumsUptoRow : OpenClaim := { program := "ytnlmmgcjhedjkaadoor", sum := "b93f35a4f496a0aa6a7b07f84101fa2ebda5a580f9749ff98463446d6cd38d15", func := "bracken/brackenlaw09.SeedSums", spec := "seedSums", inPlace := ["math/bits.Sub64", "math/bits.Add64"], unfollowed := true, recurses := true, named := ["math/bits.deBruijn32tab", "math/bits.deBruijn64tab", "math/bits.divideError", "math/bits.overflowError"], apart := false, laid := [("math/bits.deBruijn32tab", laid_math_bits_deBruijn32tab), ("math/bits.deBruijn64tab", laid_math_bits_deBruijn64tab)], narrowed := true }
def SeedSumsUptoSaid : Prop := seedSumsUptoRow.holds Tryd.pinned (OpenSpec.upto seedSumsSpec)

/-- 'brackenlaw09.SeedTrue', WHERE WHAT IT READS IS OF BULK AT MOST 1048576: true; the input reads as it did. -/
def seedTrueUptoRow : OpenClaim := { program := "ytnlmmgcjhedjkaadoor", sum := "b93f35a4f496a0aa6a7b07f84101fa2ebda5a580f9749ff98463446d6cd38d15", func := "bracken/brackenlaw09.SeedTrue", spec := "seedTrue", inPlace := ["math/bits.Sub64", "math/bits.Add64"], unfollowed := true, recurses := true, named := ["math/bits.deBruijn32tab", "math/bits.deBruijn64tab", "math/bits.divideError", "math/bits.overflowError"], apart := false, laid := [("math/bits.deBruijn32tab", laid_math_bits_deBruijn32tab), ("math/bits.deBruijn64tab", laid_math_bits_deBruijn64tab)], narrowed := true }
def SeedTrueUptoSaid : Prop := seedTrueUptoRow.holds Tryd.pinned (OpenSpec.upto seedTrueSpec)

/-- 'brackenlaw09.SeedFalse', WHERE WHAT IT READS IS OF BULK AT MOST 1048576: true; the input reads as it did. -/
def seedFalseUptoRow : OpenClaim := { program := "ytnlmmgcjhedjkaadoor", sum := "b93f35a4f496a0aa6a7b07f84101fa2ebda5a580f9749ff98463446d6cd38d15", func := "bracken/brackenlaw09.SeedFalse", spec := "seedFalse", inPlace := ["math/bits.Sub64", "math/bits.Add64"], unfollowed := true, recurses := true, named := ["math/bits.deBruijn32tab", "math/bits.deBruijn64tab", "math/bits.divideError", "math/bits.overflowError"], apart := false, laid := [("math/bits.deBruijn32tab", laid_math_bits_deBruijn32tab), ("math/bits.deBruijn64tab", laid_math_bits_deBruijn64tab)], narrowed := true }
def SeedFalseUptoSaid : Prop := seedFalseUptoRow.holds Tryd.pinned (OpenSpec.upto seedFalseSpec)

end Rows
end Go.Proofs.YtnlmmgcjhedjkaaDoor
