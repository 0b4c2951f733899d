/- Many undone at once, plainly. Under no condition beside those of each lemma. -/
import Derived.Test.YtkofhmiakfmcaaaRef02
import Derived.Test.YtkofhmiakfmcaaaLawPs
namespace Go.Proofs.Ytkofhmiakfmcaaa.P
set_option linter.unusedVariables false
/-- The product of the first ones. -/
def preS (p : Int) (l : List Int) : Nat → Int
  | 0 => 1
  | k + 1 => mulS p (preS p l k) (l.getD k 0)
theorem u64_preS (p : Int) (l : List Int) : ∀ k, U64 (preS p l k)
  | 0 => (show U64 1 by decide)
  | k + 1 => u64_mulS _ _ _
theorem preS_ne {p : Int} (hk : knownS p = true) {l : List Int} : ∀ {k : Nat}, (∀ j, j < k → redS p (l.getD j 0) ≠ 0) → redS p (preS p l k) ≠ 0
  | 0, _ => by rw [preS, one_red hk]; decide
  | k + 1, h => by
    intro h0
    rw [preS, mulS, redS_redS] at h0
    rcases redS_mul_zero hk h0 with h1 | h1
    · exact preS_ne hk (fun j hj => h j (by omega)) h1
    · exact h k (by omega) h1
theorem preS_zero {p : Int} {l : List Int} {j : Nat} (h : redS p (l.getD j 0) = 0) : ∀ {k : Nat}, j < k → redS p (preS p l k) = 0
  | k + 1, hj => by
    rw [preS, mulS, redS_redS]
    by_cases e : j = k
    · subst e; rw [← redS_mul_right, h, Int.mul_zero, redS_zero]
    · rw [← redS_mul_left, preS_zero h (show j < k by omega), Int.zero_mul, redS_zero]
def invP (p a : Int) : Int := powS p a (p - 2).toNat
theorem u64_invP (p a : Int) : U64 (invP p a) := u64_powS _ _ _
theorem preS_back {p : Int} (hk : knownS p = true) {l : List Int} {k : Nat} (h : redS p (l.getD k 0) ≠ 0) : mulS p (invP p (preS p l (k + 1))) (l.getD k 0) = invP p (preS p l k) := by
  have h1 := inv_mul hk h
  unfold invP
  rw [preS, powS_base]
  unfold mulS at h1 ⊢
  rw [redS_mul_left, Int.mul_assoc, ← redS_mul_right, h1, Int.mul_one]
  unfold powS; exact redS_redS _ _
theorem preS_ahead {p : Int} (hk : knownS p = true) {l : List Int} {k : Nat} (h : ∀ j, j < k → redS p (l.getD j 0) ≠ 0) : mulS p (preS p l k) (invP p (preS p l (k + 1))) = invP p (l.getD k 0) := by
  have h1 := inv_mul hk (preS_ne hk h)
  unfold invP
  rw [preS, powS_base]
  unfold mulS at h1 ⊢
  rw [redS_mul_right, ← Int.mul_assoc, ← redS_mul_left, Int.mul_comm (preS p l k), h1, Int.one_mul]
  unfold powS; exact redS_redS _ _
/-- What is behind k is g's, what is ahead of it f's. -/
def mixL (f g : Nat → Int) (n k : Nat) : List Int := (List.range n).map fun j => if k ≤ j then g j else f j
theorem mixL_length (f g : Nat → Int) (n k : Nat) : (mixL f g n k).length = n := by simp [mixL]
theorem mixL_at (f g : Nat → Int) {n k : Nat} (j : Nat) (hj : j < n) : (mixL f g n k)[j]'(by rw [mixL_length]; exact hj) = if k ≤ j then g j else f j := by simp [mixL]
theorem mixL_set (f g : Nat → Int) {n k : Nat} (h : k < n) : (mixL f g n (k + 1)).set k (g k) = mixL f g n k := by
  apply List.ext_getElem
  · simp [mixL]
  · intro j h1 h2
    have hj : j < n := by rw [mixL_length] at h2; exact h2
    rw [List.getElem_set, mixL_at f g j hj]
    split
    · rename_i e; subst e; rw [mixL_at f g k hj, if_pos (Nat.le_refl _)]
    · rename_i e
      rw [mixL_at f g j hj]
      by_cases hkj : k ≤ j
      · rw [if_pos hkj, if_pos (by omega)]
      · rw [if_neg hkj, if_neg (by omega)]
theorem mixL_full (f g : Nat → Int) (n : Nat) : mixL f g n n = (List.range n).map f := by
  unfold mixL
  refine List.map_congr_left fun j hj => ?_
  rw [List.mem_range] at hj
  rw [if_neg (by omega)]
theorem mixL_none (f g : Nat → Int) (n : Nat) : mixL f g n 0 = (List.range n).map g := by
  unfold mixL
  refine List.map_congr_left fun j hj => ?_
  rw [if_pos (Nat.zero_le _)]
theorem mix_end (p : Int) (l : List Int) (f : Nat → Int) : mixL f (fun j => invP p (l.getD j 0)) l.length 0 = l.map fun a => powS p a (p - 2).toNat := by
  rw [mixL_none]
  apply List.ext_getElem
  · simp
  · intro j h1 h2
    have hj : j < l.length := by simpa using h2
    simp [hj, invP]
theorem all_ne {p : Int} {l : List Int} (h : ∀ a ∈ l, redS p a ≠ 0) (j : Nat) (hj : j < l.length) : redS p (l.getD j 0) ≠ 0 := by
  rw [List.getD_eq_getElem?_getD, List.getElem?_eq_getElem hj]
  exact h _ (List.getElem_mem hj)
theorem all_not {p : Int} {l : List Int} (h : ¬ ∀ a ∈ l, redS p a ≠ 0) : redS p (preS p l l.length) = 0 := by
  rw [Classical.not_forall] at h
  obtain ⟨a, h⟩ := h
  rw [Classical.not_imp] at h
  obtain ⟨ha, hz⟩ := h
  rw [Classical.not_not] at hz
  obtain ⟨j, hj, rfl⟩ := List.getElem_of_mem ha
  refine preS_zero (j := j) ?_ hj
  rw [List.getD_eq_getElem?_getD, List.getElem?_eq_getElem hj]
  exact hz
end Go.Proofs.Ytkofhmiakfmcaaa.P
