/-
  DERIVED. GIVEN WITH THE SEED: THE CARDS: each row of YtnlmmgcjhedjkaaDoorRows.lean that lists a variable, with what it lists TIED to the program's text (the seventh form; the later family's looks); each row that meets fmt, with fmt's text TOLD by the authors' own Lean function (tested against real Go, not proved from fmt's source: count such statements apart). THE CARD IS WHAT COUNTS. Prove the row's statement (the work); the ties are given (YtnlmmgcjhedjkaaDoorTie.lean); close each card by the builder's one call (the guide's Derived/Test/ToyasCard.lean, 'card_holds'). Laid BY PROGRAM, IN A SANDBOX (cutbox-door.mjs). By AI agents, Wed Nov 11 2026. No macro, syntax, notation, axiom, sorry.
-/
import Derived.Test.YtnlmmgcjhedjkaaDoorRows
import GoSem.ClaimSeven
namespace Go.Proofs.YtnlmmgcjhedjkaaDoor
namespace Rows

/-- THE TIED CARD OF 'brackenlaw04.FactorFew'. -/
def factorFewCard : Claim7 := { stood := { row := factorFewRow, standIns := [], harness := (true, "c01b035afd88808b145d128b1776a1a280478953989dfee44e057a94721cb6fe"), looks := false }, kinds := [], alts := [], laidByText := true, laidKinds := [.data, .data], laidTests := true, laidLooks := .later }
def FactorFewCardSaid : Prop := Claim7.holds Tryd.pinned (.plain (OpenSpec.ofChange factorFewSpec)) factorFewCard

/-- THE TIED CARD OF 'brackenlaw04.FactorTimes'. -/
def factorTimesCard : Claim7 := { stood := { row := factorTimesRow, standIns := [], harness := (true, "c01b035afd88808b145d128b1776a1a280478953989dfee44e057a94721cb6fe"), looks := false }, kinds := [], alts := [], laidByText := true, laidKinds := [.data, .data], laidTests := true, laidLooks := .later }
def FactorTimesCardSaid : Prop := Claim7.holds Tryd.pinned (.plain (OpenSpec.ofChange factorTimesSpec)) factorTimesCard

/-- THE TIED CARD OF 'brackenlaw04.FactorBack'. -/
def factorBackCard : Claim7 := { stood := { row := factorBackRow, standIns := [], harness := (true, "c01b035afd88808b145d128b1776a1a280478953989dfee44e057a94721cb6fe"), looks := false }, kinds := [], alts := [], laidByText := true, laidKinds := [.data, .data], laidTests := true, laidLooks := .later }
def FactorBackCardSaid : Prop := Claim7.holds Tryd.pinned (.plain (OpenSpec.ofChange factorBackSpec)) factorBackCard

/-- THE TIED CARD OF 'brackenlaw04.FactorDoes'. -/
def factorDoesCard : Claim7 := { stood := { row := factorDoesRow, standIns := [], harness := (true, "c01b035afd88808b145d128b1776a1a280478953989dfee44e057a94721cb6fe"), looks := false }, kinds := [], alts := [], laidByText := true, laidKinds := [.data, .data], laidTests := true, laidLooks := .later }
def FactorDoesCardSaid : Prop := Claim7.holds Tryd.pinned (.plain (OpenSpec.ofChange factorDoesSpec)) factorDoesCard

/-- THE TIED CARD OF 'brackenlaw06.DftWrap'. -/
def dftWrapCard : Claim7 := { stood := { row := dftWrapRow, standIns := [], harness := (true, "c01b035afd88808b145d128b1776a1a280478953989dfee44e057a94721cb6fe"), looks := false }, kinds := [], alts := [], laidByText := true, laidKinds := [.data, .data], laidTests := true, laidLooks := .later }
def DftWrapCardSaid : Prop := Claim7.holds Tryd.pinned (.plain (OpenSpec.ofChange dftWrapSpec)) dftWrapCard

/-- THE TIED CARD OF 'brackenlaw06.DftBack'. -/
def dftBackCard : Claim7 := { stood := { row := dftBackRow, standIns := [], harness := (true, "c01b035afd88808b145d128b1776a1a280478953989dfee44e057a94721cb6fe"), looks := false }, kinds := [], alts := [], laidByText := true, laidKinds := [.data, .data], laidTests := true, laidLooks := .later }
def DftBackCardSaid : Prop := Claim7.holds Tryd.pinned (.plain (OpenSpec.ofChange dftBackSpec)) dftBackCard

/-- THE TIED CARD OF 'brackenlaw06.DftSums'. -/
def dftSumsCard : Claim7 := { stood := { row := dftSumsRow, standIns := [], harness := (true, "c01b035afd88808b145d128b1776a1a280478953989dfee44e057a94721cb6fe"), looks := false }, kinds := [], alts := [], laidByText := true, laidKinds := [.data, .data], laidTests := true, laidLooks := .later }
def DftSumsCardSaid : Prop := Claim7.holds Tryd.pinned (.plain (OpenSpec.ofChange dftSumsSpec)) dftSumsCard

/-- THE TIED CARD OF 'brackenlaw06.DftDoes'. -/
def dftDoesCard : Claim7 := { stood := { row := dftDoesRow, standIns := [], harness := (true, "c01b035afd88808b145d128b1776a1a280478953989dfee44e057a94721cb6fe"), looks := false }, kinds := [], alts := [], laidByText := true, laidKinds := [.data, .data], laidTests := true, laidLooks := .later }
def DftDoesCardSaid : Prop := Claim7.holds Tryd.pinned (.plain (OpenSpec.ofChange dftDoesSpec)) dftDoesCard

/-- THE TIED CARD OF 'brackenlaw15.FlyDft'. -/
def flyDftCard : Claim7 := { stood := { row := flyDftRow, standIns := [], harness := (true, "c01b035afd88808b145d128b1776a1a280478953989dfee44e057a94721cb6fe"), looks := false }, kinds := [], alts := [], laidByText := true, laidKinds := [.data, .data], laidTests := true, laidLooks := .later }
def FlyDftCardSaid : Prop := Claim7.holds Tryd.pinned (.plain (OpenSpec.ofChange flyDftSpec)) flyDftCard

/-- THE TIED CARD OF 'brackenlaw07.GridDoes'. -/
def gridDoesCard : Claim7 := { stood := { row := gridDoesRow, standIns := [], harness := (true, "c01b035afd88808b145d128b1776a1a280478953989dfee44e057a94721cb6fe"), looks := false }, kinds := [], alts := [], laidByText := true, laidKinds := [.data, .data], laidTests := true, laidLooks := .later }
def GridDoesCardSaid : Prop := Claim7.holds Tryd.pinned (.plain (OpenSpec.ofChange gridDoesSpec)) gridDoesCard

/-- THE TIED CARD OF 'brackenlaw07.GridBack'. -/
def gridBackCard : Claim7 := { stood := { row := gridBackRow, standIns := [], harness := (true, "c01b035afd88808b145d128b1776a1a280478953989dfee44e057a94721cb6fe"), looks := false }, kinds := [], alts := [], laidByText := true, laidKinds := [.data, .data], laidTests := true, laidLooks := .later }
def GridBackCardSaid : Prop := Claim7.holds Tryd.pinned (.plain (OpenSpec.ofChange gridBackSpec)) gridBackCard

/-- THE TIED CARD OF 'brackenlaw07.GridOrder'. -/
def gridOrderCard : Claim7 := { stood := { row := gridOrderRow, standIns := [], harness := (true, "c01b035afd88808b145d128b1776a1a280478953989dfee44e057a94721cb6fe"), looks := false }, kinds := [], alts := [], laidByText := true, laidKinds := [.data, .data], laidTests := true, laidLooks := .later }
def GridOrderCardSaid : Prop := Claim7.holds Tryd.pinned (.plain (OpenSpec.ofChange gridOrderSpec)) gridOrderCard

/-- THE TIED CARD OF 'brackenlaw07.GridOne'. -/
def gridOneCard : Claim7 := { stood := { row := gridOneRow, standIns := [], harness := (true, "c01b035afd88808b145d128b1776a1a280478953989dfee44e057a94721cb6fe"), looks := false }, kinds := [], alts := [], laidByText := true, laidKinds := [.data, .data], laidTests := true, laidLooks := .later }
def GridOneCardSaid : Prop := Claim7.holds Tryd.pinned (.plain (OpenSpec.ofChange gridOneSpec)) gridOneCard

/-- THE TIED CARD OF 'brackenlaw09.SeedDoes'. -/
def seedDoesCard : Claim7 := { stood := { row := seedDoesRow, standIns := [], harness := (true, "c01b035afd88808b145d128b1776a1a280478953989dfee44e057a94721cb6fe"), looks := false }, kinds := [], alts := [], laidByText := true, laidKinds := [.data, .data], laidTests := true, laidLooks := .later }
def SeedDoesCardSaid : Prop := Claim7.holds Tryd.pinned (.plain (OpenSpec.ofChange seedDoesSpec)) seedDoesCard

/-- THE TIED CARD OF 'brackenlaw09.SeedSums'. -/
def seedSumsCard : Claim7 := { stood := { row := seedSumsRow, standIns := [], harness := (true, "c01b035afd88808b145d128b1776a1a280478953989dfee44e057a94721cb6fe"), looks := false }, kinds := [], alts := [], laidByText := true, laidKinds := [.data, .data], laidTests := true, laidLooks := .later }
def SeedSumsCardSaid : Prop := Claim7.holds Tryd.pinned (.plain (OpenSpec.ofChange seedSumsSpec)) seedSumsCard

/-- THE TIED CARD OF 'brackenlaw09.SeedTrue'. -/
def seedTrueCard : Claim7 := { stood := { row := seedTrueRow, standIns := [], harness := (true, "c01b035afd88808b145d128b1776a1a280478953989dfee44e057a94721cb6fe"), looks := false }, kinds := [], alts := [], laidByText := true, laidKinds := [.data, .data], laidTests := true, laidLooks := .later }
def SeedTrueCardSaid : Prop := Claim7.holds Tryd.pinned (.plain (OpenSpec.ofChange seedTrueSpec)) seedTrueCard

/-- THE TIED CARD OF 'brackenlaw09.SeedFalse'. -/
def seedFalseCard : Claim7 := { stood := { row := seedFalseRow, standIns := [], harness := (true, "c01b035afd88808b145d128b1776a1a280478953989dfee44e057a94721cb6fe"), looks := false }, kinds := [], alts := [], laidByText := true, laidKinds := [.data, .data], laidTests := true, laidLooks := .later }
def SeedFalseCardSaid : Prop := Claim7.holds Tryd.pinned (.plain (OpenSpec.ofChange seedFalseSpec)) seedFalseCard

/-- THE SECOND FORM's CARD OF 'brackenlaw04.FactorFew'. -/
def factorFewUptoCard : Claim7 := { stood := { row := factorFewUptoRow, standIns := [], harness := (true, "c01b035afd88808b145d128b1776a1a280478953989dfee44e057a94721cb6fe"), looks := false }, kinds := [], alts := [], laidByText := true, laidKinds := [.data, .data], laidTests := true, laidLooks := .later }
def FactorFewUptoCardSaid : Prop := Claim7.holds Tryd.pinned (.plain (OpenSpec.upto factorFewSpec)) factorFewUptoCard

/-- THE SECOND FORM's CARD OF 'brackenlaw04.FactorTimes'. -/
def factorTimesUptoCard : Claim7 := { stood := { row := factorTimesUptoRow, standIns := [], harness := (true, "c01b035afd88808b145d128b1776a1a280478953989dfee44e057a94721cb6fe"), looks := false }, kinds := [], alts := [], laidByText := true, laidKinds := [.data, .data], laidTests := true, laidLooks := .later }
def FactorTimesUptoCardSaid : Prop := Claim7.holds Tryd.pinned (.plain (OpenSpec.upto factorTimesSpec)) factorTimesUptoCard

/-- THE SECOND FORM's CARD OF 'brackenlaw04.FactorBack'. -/
def factorBackUptoCard : Claim7 := { stood := { row := factorBackUptoRow, standIns := [], harness := (true, "c01b035afd88808b145d128b1776a1a280478953989dfee44e057a94721cb6fe"), looks := false }, kinds := [], alts := [], laidByText := true, laidKinds := [.data, .data], laidTests := true, laidLooks := .later }
def FactorBackUptoCardSaid : Prop := Claim7.holds Tryd.pinned (.plain (OpenSpec.upto factorBackSpec)) factorBackUptoCard

/-- THE SECOND FORM's CARD OF 'brackenlaw04.FactorDoes'. -/
def factorDoesUptoCard : Claim7 := { stood := { row := factorDoesUptoRow, standIns := [], harness := (true, "c01b035afd88808b145d128b1776a1a280478953989dfee44e057a94721cb6fe"), looks := false }, kinds := [], alts := [], laidByText := true, laidKinds := [.data, .data], laidTests := true, laidLooks := .later }
def FactorDoesUptoCardSaid : Prop := Claim7.holds Tryd.pinned (.plain (OpenSpec.upto factorDoesSpec)) factorDoesUptoCard

/-- THE SECOND FORM's CARD OF 'brackenlaw06.DftWrap'. -/
def dftWrapUptoCard : Claim7 := { stood := { row := dftWrapUptoRow, standIns := [], harness := (true, "c01b035afd88808b145d128b1776a1a280478953989dfee44e057a94721cb6fe"), looks := false }, kinds := [], alts := [], laidByText := true, laidKinds := [.data, .data], laidTests := true, laidLooks := .later }
def DftWrapUptoCardSaid : Prop := Claim7.holds Tryd.pinned (.plain (OpenSpec.upto dftWrapSpec)) dftWrapUptoCard

/-- THE SECOND FORM's CARD OF 'brackenlaw06.DftBack'. -/
def dftBackUptoCard : Claim7 := { stood := { row := dftBackUptoRow, standIns := [], harness := (true, "c01b035afd88808b145d128b1776a1a280478953989dfee44e057a94721cb6fe"), looks := false }, kinds := [], alts := [], laidByText := true, laidKinds := [.data, .data], laidTests := true, laidLooks := .later }
def DftBackUptoCardSaid : Prop := Claim7.holds Tryd.pinned (.plain (OpenSpec.upto dftBackSpec)) dftBackUptoCard

/-- THE SECOND FORM's CARD OF 'brackenlaw06.DftSums'. -/
def dftSumsUptoCard : Claim7 := { stood := { row := dftSumsUptoRow, standIns := [], harness := (true, "c01b035afd88808b145d128b1776a1a280478953989dfee44e057a94721cb6fe"), looks := false }, kinds := [], alts := [], laidByText := true, laidKinds := [.data, .data], laidTests := true, laidLooks := .later }
def DftSumsUptoCardSaid : Prop := Claim7.holds Tryd.pinned (.plain (OpenSpec.upto dftSumsSpec)) dftSumsUptoCard

/-- THE SECOND FORM's CARD OF 'brackenlaw06.DftDoes'. -/
def dftDoesUptoCard : Claim7 := { stood := { row := dftDoesUptoRow, standIns := [], harness := (true, "c01b035afd88808b145d128b1776a1a280478953989dfee44e057a94721cb6fe"), looks := false }, kinds := [], alts := [], laidByText := true, laidKinds := [.data, .data], laidTests := true, laidLooks := .later }
def DftDoesUptoCardSaid : Prop := Claim7.holds Tryd.pinned (.plain (OpenSpec.upto dftDoesSpec)) dftDoesUptoCard

/-- THE SECOND FORM's CARD OF 'brackenlaw15.FlyDft'. -/
def flyDftUptoCard : Claim7 := { stood := { row := flyDftUptoRow, standIns := [], harness := (true, "c01b035afd88808b145d128b1776a1a280478953989dfee44e057a94721cb6fe"), looks := false }, kinds := [], alts := [], laidByText := true, laidKinds := [.data, .data], laidTests := true, laidLooks := .later }
def FlyDftUptoCardSaid : Prop := Claim7.holds Tryd.pinned (.plain (OpenSpec.upto flyDftSpec)) flyDftUptoCard

/-- THE SECOND FORM's CARD OF 'brackenlaw07.GridDoes'. -/
def gridDoesUptoCard : Claim7 := { stood := { row := gridDoesUptoRow, standIns := [], harness := (true, "c01b035afd88808b145d128b1776a1a280478953989dfee44e057a94721cb6fe"), looks := false }, kinds := [], alts := [], laidByText := true, laidKinds := [.data, .data], laidTests := true, laidLooks := .later }
def GridDoesUptoCardSaid : Prop := Claim7.holds Tryd.pinned (.plain (OpenSpec.upto gridDoesSpec)) gridDoesUptoCard

/-- THE SECOND FORM's CARD OF 'brackenlaw07.GridBack'. -/
def gridBackUptoCard : Claim7 := { stood := { row := gridBackUptoRow, standIns := [], harness := (true, "c01b035afd88808b145d128b1776a1a280478953989dfee44e057a94721cb6fe"), looks := false }, kinds := [], alts := [], laidByText := true, laidKinds := [.data, .data], laidTests := true, laidLooks := .later }
def GridBackUptoCardSaid : Prop := Claim7.holds Tryd.pinned (.plain (OpenSpec.upto gridBackSpec)) gridBackUptoCard

/-- THE SECOND FORM's CARD OF 'brackenlaw07.GridOrder'. -/
def gridOrderUptoCard : Claim7 := { stood := { row := gridOrderUptoRow, standIns := [], harness := (true, "c01b035afd88808b145d128b1776a1a280478953989dfee44e057a94721cb6fe"), looks := false }, kinds := [], alts := [], laidByText := true, laidKinds := [.data, .data], laidTests := true, laidLooks := .later }
def GridOrderUptoCardSaid : Prop := Claim7.holds Tryd.pinned (.plain (OpenSpec.upto gridOrderSpec)) gridOrderUptoCard

/-- THE SECOND FORM's CARD OF 'brackenlaw07.GridOne'. -/
def gridOneUptoCard : Claim7 := { stood := { row := gridOneUptoRow, standIns := [], harness := (true, "c01b035afd88808b145d128b1776a1a280478953989dfee44e057a94721cb6fe"), looks := false }, kinds := [], alts := [], laidByText := true, laidKinds := [.data, .data], laidTests := true, laidLooks := .later }
def GridOneUptoCardSaid : Prop := Claim7.holds Tryd.pinned (.plain (OpenSpec.upto gridOneSpec)) gridOneUptoCard

/-- THE SECOND FORM's CARD OF 'brackenlaw09.SeedDoes'. -/
def seedDoesUptoCard : Claim7 := { stood := { row := seedDoesUptoRow, standIns := [], harness := (true, "c01b035afd88808b145d128b1776a1a280478953989dfee44e057a94721cb6fe"), looks := false }, kinds := [], alts := [], laidByText := true, laidKinds := [.data, .data], laidTests := true, laidLooks := .later }
def SeedDoesUptoCardSaid : Prop := Claim7.holds Tryd.pinned (.plain (OpenSpec.upto seedDoesSpec)) seedDoesUptoCard

/-- THE SECOND FORM's CARD OF 'brackenlaw09.SeedSums'. -/
def seedSumsUptoCard : Claim7 := { stood := { row := seedSumsUptoRow, standIns := [], harness := (true, "c01b035afd88808b145d128b1776a1a280478953989dfee44e057a94721cb6fe"), looks := false }, kinds := [], alts := [], laidByText := true, laidKinds := [.data, .data], laidTests := true, laidLooks := .later }
def SeedSumsUptoCardSaid : Prop := Claim7.holds Tryd.pinned (.plain (OpenSpec.upto seedSumsSpec)) seedSumsUptoCard

/-- THE SECOND FORM's CARD OF 'brackenlaw09.SeedTrue'. -/
def seedTrueUptoCard : Claim7 := { stood := { row := seedTrueUptoRow, standIns := [], harness := (true, "c01b035afd88808b145d128b1776a1a280478953989dfee44e057a94721cb6fe"), looks := false }, kinds := [], alts := [], laidByText := true, laidKinds := [.data, .data], laidTests := true, laidLooks := .later }
def SeedTrueUptoCardSaid : Prop := Claim7.holds Tryd.pinned (.plain (OpenSpec.upto seedTrueSpec)) seedTrueUptoCard

/-- THE SECOND FORM's CARD OF 'brackenlaw09.SeedFalse'. -/
def seedFalseUptoCard : Claim7 := { stood := { row := seedFalseUptoRow, standIns := [], harness := (true, "c01b035afd88808b145d128b1776a1a280478953989dfee44e057a94721cb6fe"), looks := false }, kinds := [], alts := [], laidByText := true, laidKinds := [.data, .data], laidTests := true, laidLooks := .later }
def SeedFalseUptoCardSaid : Prop := Claim7.holds Tryd.pinned (.plain (OpenSpec.upto seedFalseSpec)) seedFalseUptoCard
end Rows
end Go.Proofs.YtnlmmgcjhedjkaaDoor
