/- Powers, plainly: what Pow's loop holds. Under no condition beside those of each lemma. -/
import Derived.Lib.BitFns
import Derived.Test.YtkofhmiakfmcaaaPrime2
namespace Go.Proofs.Ytkofhmiakfmcaaa.P
open Go.RowKit
theorem bitLenAux_lt : ∀ (f x : Nat), x < 2 ^ f → x < 2 ^ Lib.bitLenAux f x ∧ Lib.bitLenAux f x ≤ f
  | 0, x, h => by simpa [Lib.bitLenAux] using h
  | f + 1, x, h => by
    unfold Lib.bitLenAux
    split
    · rename_i h0; subst h0; simp
    · have ih := bitLenAux_lt f (x / 2) (by rw [Nat.pow_succ] at h; omega)
      refine ⟨?_, by omega⟩
      rw [Nat.add_comm, Nat.pow_succ]
      omega
theorem bitLen_lt (x : Nat) (h : x < 2 ^ 64) : x < 2 ^ Lib.bitLen x ∧ Lib.bitLen x ≤ 64 := bitLenAux_lt 64 x h
/-- A power, counted by p. -/
def powS (p a : Int) (n : Nat) : Int := redS p (a ^ n)
theorem u64_powS (p a : Int) (n : Nat) : U64 (powS p a n) := u64_redS _ _
theorem powS_zero (p a : Int) : powS p a 0 = redS p 1 := by rw [powS, Int.pow_zero]
theorem powS_add (p a : Int) (n m : Nat) : powS p a (n + m) = mulS p (powS p a n) (powS p a m) := by
  unfold powS mulS; rw [Int.pow_add, redS_mul_left, redS_mul_right]
theorem powS_one (p a : Int) : powS p a 1 = redS p a := by unfold powS; rw [Int.pow_succ, Int.pow_zero, Int.one_mul]
theorem powS_double (p a : Int) (n : Nat) : mulS p (powS p a n) (powS p a n) = powS p a (2 * n) := by rw [Nat.two_mul, powS_add]
theorem powS_succ (p a : Int) (n : Nat) : mulS p (powS p a n) a = powS p a (n + 1) := by
  unfold powS mulS; rw [Int.pow_succ, redS_mul_left]
theorem powS_red (p a : Int) (n : Nat) : powS p (redS p a) n = powS p a n := by
  induction n with
  | zero => rw [powS_zero, powS_zero]
  | succ n ih => rw [← powS_succ, ← powS_succ, ih]; unfold mulS; rw [redS_mul_right]
theorem powS_mul (p a : Int) (n m : Nat) : powS p a (n * m) = powS p (powS p a n) m := by
  unfold powS
  rw [Int.pow_mul]
  exact (powS_red p (a ^ n) m).symm
theorem powS_base (p a b : Int) (n : Nat) : powS p (mulS p a b) n = mulS p (powS p a n) (powS p b n) := by
  unfold mulS
  rw [powS_red]
  unfold powS
  rw [Int.mul_pow, redS_mul_left, redS_mul_right]
theorem powS_pm {P a n : Nat} (hk : knownS (P : Int) = true) (h : n < 2 ^ 64) : powS (P : Int) (a : Int) n = ((pm P 64 a n : Nat) : Int) := by
  unfold powS
  rw [← Int.natCast_pow, redS_nat hk, pm_eq P 64 a n h]
/-- One round of Pow's loop: the bit k of n. -/
theorem bit_of (n k : Nat) : (n / 2 ^ k) = 2 * (n / 2 ^ (k + 1)) + (n / 2 ^ k) % 2 := by
  rw [Nat.pow_succ, ← Nat.div_div_eq_div_mul]; omega
end Go.Proofs.Ytkofhmiakfmcaaa.P
