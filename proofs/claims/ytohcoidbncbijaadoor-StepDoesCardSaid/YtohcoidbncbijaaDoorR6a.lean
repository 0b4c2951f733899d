
/- The contracts of brackenref06's order, step, Check, Forward and Inverse. Conditions: words of their kinds; the slice reads as a list. -/
import Derived.Test.YtohcoidbncbijaaDoorDftD
import Derived.Test.YtohcoidbncbijaaDoorDftL
import Derived.Test.YtohcoidbncbijaaDoorRefB
import Derived.Test.YtohcoidbncbijaaDoorFac3
namespace Go.Proofs.YtohcoidbncbijaaDoor.P
open Go.RowKit
set_option linter.unusedVariables false
set_option linter.unusedSimpArgs false
theorem r01_in_n (p : Int) (A : Option Addr) (c n : Nat) (l : List Int) (w : World) (hn : l.length = n) (hr : Row w A (nums .u64 l)) (hl : n ≤ 9223372036854775807) :
    Calls Tryd.prog 70 #[.int .u64 p, .slice A n c] w fun e w' => e = .returned (.bool (inS p l)) ∧ w' = w := by
  subst hn; exact r01_in p A c l w hr hl
end Go.Proofs.YtohcoidbncbijaaDoor.P
