/- The numbers of a prime, as whole numbers: what the field's functions tell, and that sums and products hang on no order. Under no condition beside those of each lemma. -/
import Derived.RowKit
namespace Go.Proofs.Ytkofhmiakfmcaaa.P
open Go.RowKit

/-- A word of 64 bits without a sign. -/
def U64 (a : Int) : Prop := 0 ≤ a ∧ a < 18446744073709551616
instance (a : Int) : Decidable (U64 a) := by unfold U64; exact inferInstance
/-- An int. -/
def i64 (a : Int) : Prop := -9223372036854775808 ≤ a ∧ a < 9223372036854775808
instance (a : Int) : Decidable (i64 a) := by unfold i64; exact inferInstance
theorem u64_wf {a : Int} (h : (Lit.int .u64 a).wf = true) : U64 a := by
  simp only [Lit.wf, IntKind.min, IntKind.max, IntKind.signed, IntKind.bits, Bool.and_eq_true] at h
  unfold U64
  have := h.1; have := h.2
  simp at *
  omega
theorem i64_wf {a : Int} (h : (Lit.int .i64 a).wf = true) : i64 a := by
  simp only [Lit.wf, IntKind.min, IntKind.max, IntKind.signed, IntKind.bits, Bool.and_eq_true, decide_eq_true_eq] at h
  unfold i64
  have := h.1; have := h.2
  simp at *
  omega
theorem wrap64_id {x : Int} (h : i64 x) : wrap64 x = x := by unfold i64 at h; unfold wrap64; omega

def knownS (p : Int) : Bool := p == 18446744069414584321 || p == 998244353 || p == 2013265921
theorem knownS_cases {p : Int} (h : knownS p = true) : p = 18446744069414584321 ∨ p = 998244353 ∨ p = 2013265921 := by
  simp only [knownS, Bool.or_eq_true, beq_iff_eq] at h; omega
theorem known_pos {p : Int} (h : knownS p = true) : 1 < p ∧ p < 18446744073709551616 := by
  rcases knownS_cases h with rfl | rfl | rfl <;> omega

/-- What a whole number is, counted by p; 0 where p is no prime that is known. -/
def redS (p a : Int) : Int := if knownS p then a % p else 0
theorem redS_known {p a : Int} (h : knownS p = true) : redS p a = a % p := by rw [redS, if_pos h]
theorem redS_not {p a : Int} (h : ¬ knownS p = true) : redS p a = 0 := by rw [redS, if_neg h]
theorem redS_lo (p a : Int) : 0 ≤ redS p a := by
  unfold redS; split
  · rename_i h; have := known_pos h; exact Int.emod_nonneg _ (by omega)
  · exact Int.le_refl _
theorem redS_hi {p : Int} (a : Int) (h : knownS p = true) : redS p a < p := by
  rw [redS_known h]; have := known_pos h; exact Int.emod_lt_of_pos _ (by omega)
theorem u64_redS (p a : Int) : U64 (redS p a) := by
  refine ⟨redS_lo p a, ?_⟩
  by_cases h : knownS p = true
  · have := redS_hi a h; have := known_pos h; omega
  · rw [redS_not h]; omega
theorem redS_redS (p a : Int) : redS p (redS p a) = redS p a := by
  unfold redS; split
  · exact Int.emod_emod_of_dvd _ (Int.dvd_refl p)
  · rfl
theorem redS_zero (p : Int) : redS p 0 = 0 := by unfold redS; split <;> simp
theorem redS_add_left (p a b : Int) : redS p (redS p a + b) = redS p (a + b) := by
  unfold redS; split
  · exact Int.emod_add_emod ..
  · rfl
theorem redS_add_right (p a b : Int) : redS p (a + redS p b) = redS p (a + b) := by
  rw [Int.add_comm, redS_add_left, Int.add_comm]
theorem redS_mul_left (p a b : Int) : redS p (redS p a * b) = redS p (a * b) := by
  unfold redS; split
  · rw [Int.mul_emod, Int.emod_emod_of_dvd _ (Int.dvd_refl p), ← Int.mul_emod]
  · rfl
theorem redS_mul_right (p a b : Int) : redS p (a * redS p b) = redS p (a * b) := by
  rw [Int.mul_comm, redS_mul_left, Int.mul_comm]
theorem redS_neg (p a : Int) : redS p (-(redS p a)) = redS p (-a) := by
  have h := redS_mul_right p (-1) a
  rwa [Int.neg_one_mul, Int.neg_one_mul] at h
theorem redS_sub_left (p a b : Int) : redS p (redS p a - b) = redS p (a - b) := by
  rw [Int.sub_eq_add_neg, redS_add_left, ← Int.sub_eq_add_neg]
theorem redS_sub_right (p a b : Int) : redS p (a - redS p b) = redS p (a - b) := by
  rw [Int.sub_eq_add_neg, ← redS_add_right, redS_neg, redS_add_right, ← Int.sub_eq_add_neg]
theorem redS_small {p a : Int} (h : knownS p = true) (h0 : 0 ≤ a) (h1 : a < p) : redS p a = a := by
  rw [redS_known h, Int.emod_eq_of_lt h0 h1]
/-- Two are the same by p just if p divides what lies between them. -/
theorem redS_eq_iff {p a b : Int} (h : knownS p = true) : redS p a = redS p b ↔ p ∣ a - b := by
  rw [redS_known h, redS_known h]; exact Int.emod_eq_emod_iff_emod_sub_eq_zero.trans (Int.dvd_iff_emod_eq_zero).symm
def addS (p a b : Int) : Int := redS p (a + b)
def subS (p a b : Int) : Int := redS p (a - b)
def negS (p a : Int) : Int := redS p (-a)
def mulS (p a b : Int) : Int := redS p (a * b)
theorem u64_addS (p a b : Int) : U64 (addS p a b) := u64_redS _ _
theorem u64_subS (p a b : Int) : U64 (subS p a b) := u64_redS _ _
theorem u64_negS (p a : Int) : U64 (negS p a) := u64_redS _ _
theorem u64_mulS (p a b : Int) : U64 (mulS p a b) := u64_redS _ _
end Go.Proofs.Ytkofhmiakfmcaaa.P
