
/- What the rows of this seat share: the library's table, out of the row's condition; a start that meets it. Under no condition beside those of each lemma. -/
import Derived.Test.YtohcoidbncbijaaDoorRows
import Derived.Test.YtohcoidbncbijaaDoorRadB
import Derived.ProofKit
import Derived.LaidMore
import Derived.LaidLaws
import Derived.Lib.LaidTab
import Derived.Stop.LaidErr
import Derived.KernelRfl
namespace Go.Proofs.YtohcoidbncbijaaDoor.P
open Go.ChangeShapes Go.WideShapes Go.ChangeAt Go.RowKit
def laidL : List (String × DataW Unit) := [("math/bits.deBruijn32tab", Rows.laid_math_bits_deBruijn32tab), ("math/bits.deBruijn64tab", Rows.laid_math_bits_deBruijn64tab)]
set_option maxRecDepth 100000 in
theorem door_met (os : Os) (args : Array Value) : laidMetH Tryd.prog laidL ((World.doorLaid Tryd.prog 400 os).forCall (fun _ _ => 0) ⟨#[], args, []⟩).memory :=
  laidMetH_of_parts3 (fuel := 8) (laidMet_of_run' 8 (by kernel_rfl) (by kernel_rfl)) (by kernel_rfl) (by kernel_rfl)
theorem tab_is : (Rows.laid_math_bits_deBruijn64tab : DataW Unit) = Go.Lib.tabData .u8 (Go.Lib.deBruijn64tab.map fun n : Nat => (n : Int)) := by kernel_rfl
theorem tab_of {W : World} (h : laidMetH Tryd.prog laidL W) : Tab W := by
  rw [MakeChecks.laidMetH_plain _ _ _ (by kernel_rfl)] at h
  have h2 : laidMet Tryd.prog [("math/bits.deBruijn64tab", Rows.laid_math_bits_deBruijn64tab)] W := laidMet.tail h
  rw [tab_is] at h2
  have h3 := Go.Lib.tabIs_of_head (P := Tryd.prog) (g := 3) (t := 159) (e := 5) (n := 64) (by kernel_rfl) (by kernel_rfl) (by kernel_rfl) (by kernel_rfl) (by kernel_rfl) (by kernel_rfl) h2
  intro j hj
  have h4 := h3.cell (g := 3) (by kernel_rfl) j (by rw [List.length_map]; exact Nat.lt_of_lt_of_le hj (by decide))
  rw [h4]
  congr 2
  rw [List.getD_eq_getElem?_getD, List.getD_eq_getElem?_getD, List.getElem?_map]
  cases Go.Lib.deBruijn64tab[j]? <;> rfl
end Go.Proofs.YtohcoidbncbijaaDoor.P
