
/- The chapter's example of layer 6; the law DftBack, walked. Conditions: words of their kinds; the slice reads as a list; the library's table lies as it was laid. -/
import Derived.Test.YtohcoidbncbijaaDoorDftD
import Derived.Test.YtohcoidbncbijaaDoorRef05B
namespace Go.Proofs.YtohcoidbncbijaaDoor.P
open Go.RowKit
set_option linter.unusedVariables false
set_option linter.unusedSimpArgs false
theorem lin_unit (w b l : Int) (o : Nat) : linF 998244353 (fun i => wgt w b l false false i o) [1, 0, 0, 0] = 1 := by
  have e : S 4 (fun i => ([1, 0, 0, 0] : List Int).getD i 0 * wgt w b l false false i o) = 1 := by
    have e0 : wgt w b l false false 0 o = 1 := by
      simp only [wgt, stp, Bool.false_eq_true, if_false]
      rw [Nat.zero_mul, Int.pow_zero]
    simp only [S]
    rw [e0]
    generalize wgt w b l false false 1 o = q1
    generalize wgt w b l false false 2 o = q2
    generalize wgt w b l false false 3 o = q3
    simp
  unfold linF
  rw [show ([1, 0, 0, 0] : List Int).length = 4 from rfl, e]
  decide
theorem fwd_unit : trS 998244353 false false [1, 0, 0, 0] = ([1, 1, 1, 1], 0) := by
  have hc : chk6 998244353 [1, 0, 0, 0] false = 0 := by
    have hk : knownS 998244353 = true := by decide
    have hs : smoothS (([1, 0, 0, 0] : List Int).length : Int) = true := by decide +kernel
    have hr : (rootS 998244353 (ordS ([1, 0, 0, 0] : List Int).length false)).2 = 0 := by
      have e : ordS ([1, 0, 0, 0] : List Int).length false = 4 := rfl
      rw [e]
      unfold rootS
      rw [if_pos (by decide), if_pos (by decide)]
    have hi : inS 998244353 [1, 0, 0, 0] = true := by decide
    rw [chk6, if_pos hk, if_pos hs, if_pos hr, if_pos hi]
  have e : ∀ o, trF 998244353 false false [1, 0, 0, 0] o = 1 := fun o => lin_unit _ _ _ o
  have hl : trL 998244353 false false [1, 0, 0, 0] = [1, 1, 1, 1] := by
    unfold trL
    rw [show (List.range ([1, 0, 0, 0] : List Int).length) = [0, 1, 2, 3] from rfl]
    simp only [List.map_cons, List.map_nil, e]
  rw [trS, if_pos hc, hl]
theorem same_n (A B : Option Addr) (ca cb n m : Nat) (l k : List Int) (w : World) (hn : l.length = n) (hm : k.length = m) (hr : Row w A (nums .u64 l)) (hl : n ≤ 9223372036854775807) (hrm : Row w B (nums .u64 k)) :
    Calls Tryd.prog 28 #[.slice A n ca, .slice B m cb] w fun e w' => e = .returned (.bool (decide (l = k))) ∧ Drawn0 w w' := by
  subst hn; subst hm; exact sameU_calls A B ca cb l k w hr hl hrm
theorem in_n (p : Int) (A : Option Addr) (c n : Nat) (l : List Int) (w : World) (hn : l.length = n) (hr : Row w A (nums .u64 l)) (hl : n ≤ 9223372036854775807) :
    Calls Tryd.prog 47 #[.int .u64 p, .slice A n c] w fun e w' => e = .returned (.bool (inS p l)) ∧ w' = w := by
  subst hn; exact in_calls p A c l w hr hl
theorem trS_err {p : Int} {neg inv : Bool} {x : List Int} (h : chk6 p x neg ≠ 0) : trS p neg inv x = ([], chk6 p x neg) := by rw [trS, if_neg h]
theorem trS_yes {p : Int} {neg inv : Bool} {x : List Int} (h : chk6 p x neg = 0) : trS p neg inv x = (trL p neg inv x, 0) := by rw [trS, if_pos h]
end Go.Proofs.YtohcoidbncbijaaDoor.P
