/- The contract of package geom's Eval, the length as a number. Conditions: words of their kinds; the slice reads as a list. -/
import Derived.Test.YtkofhmiakfmcaaaEval0
namespace Go.Proofs.Ytkofhmiakfmcaaa.P
open Go.RowKit
set_option linter.unusedVariables false
theorem blE {w W W' : World} (h : Below w.heap.size w W) (hb : Below W.heap.size W W') : Below w.heap.size w W' := h.trans (hb.mono h.size)
theorem eval_n (p r : Int) (A : Option Addr) (n c : Nat) (l : List Int) (w : World) (hn : l.length = n) (hp : U64 p) (hr : U64 r) (hR : Row w A (nums .u64 l)) (hl : n ≤ 9223372036854775807) (hw : ∀ a ∈ l, U64 a) :
    Calls Try.prog 78 #[.int .u64 p, .slice A n c, .int .u64 r] w fun e w' => e = .returned (.tuple #[.int .u64 (evalS p r l).1, .int .i64 (evalS p r l).2]) ∧ Below w.heap.size w w' := by
  subst hn; exact eval_calls p r A c l w hp hr hR hl hw
theorem evalS_ok {p r : Int} {l : List Int} (hk : knownS p = true) (h : l.length ≤ 65536) : evalS p r l = (evalG p r l, 0) := by rw [evalS, if_pos hk, if_pos h]
end Go.Proofs.Ytkofhmiakfmcaaa.P
