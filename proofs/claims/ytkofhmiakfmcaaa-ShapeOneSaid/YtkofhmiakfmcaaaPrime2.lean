/- What follows for numbers counted by a prime: no two that are not 0 have the product 0; each that is not 0 is undone; the power p less 1 is 1. -/
import Derived.Test.YtkofhmiakfmcaaaPrime
namespace Go.Proofs.Ytkofhmiakfmcaaa.P
theorem known_gen {p : Int} (hk : knownS p = true) : ∃ P g n : Nat, p = (P : Int) ∧ Gen P g n := by
  rcases knownS_cases hk with rfl | rfl | rfl
  · exact ⟨18446744069414584321, 7, 18446744069414584320, rfl, gen_P0⟩
  · exact ⟨998244353, 3, 998244352, rfl, gen_P1⟩
  · exact ⟨2013265921, 31, 2013265920, rfl, gen_P2⟩
/-- A number counted by p, as a natural number. -/
def nat (p a : Int) : Nat := (redS p a).toNat
theorem nat_eq (p a : Int) : ((nat p a : Nat) : Int) = redS p a := Int.toNat_of_nonneg (redS_lo p a)
theorem redS_nat {P : Nat} (hk : knownS (P : Int) = true) (x : Nat) : redS (P : Int) (x : Int) = ((x % P : Nat) : Int) := by rw [redS_known hk]; rfl
theorem redS_mul_zero {p a b : Int} (hk : knownS p = true) (h : redS p (a * b) = 0) : redS p a = 0 ∨ redS p b = 0 := by
  obtain ⟨P, g, n, rfl, G⟩ := known_gen hk
  rw [← redS_mul_left, ← redS_mul_right, ← nat_eq P a, ← nat_eq P b, ← Int.natCast_mul, redS_nat hk] at h
  have h1 := G.zero (nat P a) (nat P b) (by exact_mod_cast h)
  have e : ∀ x, redS (P : Int) x = ((nat P x % P : Nat) : Int) := fun x => by rw [← redS_nat hk, nat_eq, redS_redS]
  rw [e a, e b]
  rcases h1 with h1 | h1
  · left; rw [h1]; rfl
  · right; rw [h1]; rfl
theorem redS_cancel {p a b c : Int} (hk : knownS p = true) (ha : redS p a ≠ 0) (h : redS p (a * b) = redS p (a * c)) : redS p b = redS p c := by
  rw [redS_eq_iff hk]
  have h1 : redS p (a * (b - c)) = 0 := by
    rw [redS_eq_iff hk] at h
    rw [← redS_zero p, redS_eq_iff hk, Int.mul_sub, Int.sub_zero]
    exact h
  rcases redS_mul_zero hk h1 with h2 | h2
  · exact absurd h2 ha
  · rw [← redS_zero p, redS_eq_iff hk, Int.sub_zero] at h2
    exact h2
theorem redS_fermat {p a : Int} (hk : knownS p = true) (ha : redS p a ≠ 0) : redS p (a ^ (p - 1).toNat) = 1 := by
  obtain ⟨P, g, n, rfl, G⟩ := known_gen hk
  have hn : ((P : Int) - 1).toNat = n := by have := G.p_is; omega
  have hpow : ∀ k : Nat, redS (P : Int) (a ^ k) = redS P ((redS P a) ^ k) := by
    intro k
    induction k with
    | zero => rw [Int.pow_zero, Int.pow_zero]
    | succ k ih => rw [Int.pow_succ, Int.pow_succ, ← redS_mul_left, ih, redS_mul_left, redS_mul_right]
  rw [hn, hpow, ← nat_eq P a, ← Int.natCast_pow, redS_nat hk, G.fermat]
  · rfl
  · intro h0
    apply ha
    rw [← redS_redS, ← nat_eq P a, redS_nat hk, h0]; rfl
theorem one_red {p : Int} (hk : knownS p = true) : redS p 1 = 1 := redS_small hk (by omega) (known_pos hk).1
end Go.Proofs.Ytkofhmiakfmcaaa.P
