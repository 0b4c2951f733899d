/- The laws FieldZero and FieldBelow, walked. Conditions: words of 64 bits. -/
import Derived.Test.YtkofhmiakfmcaaaLawRing
import Derived.Test.YtkofhmiakfmcaaaPrime2
namespace Go.Proofs.Ytkofhmiakfmcaaa.P
open Go.RowKit
set_option linter.unusedVariables false
set_option linter.unusedSimpArgs false
theorem fieldZero_walk (p a b c : Int) (w : World) (hp : u64 p) (ha : u64 a) (hb : u64 b) (hc : u64 c) :
    Calls Try.prog 7 #[.int .u64 p, .int .u64 a, .int .u64 b, .int .u64 c] w fun e w' => e = .returned (.bool true) ∧ Below w.heap.size w w' := by
  have HA := Lib.hid ha
  have HB := Lib.hid hb
  have HC := Lib.hid hc
  have HP := Lib.hid hp
  clear ha hb hc hp
  by_cases hk : knownS p = true
  · by_cases hx : redS p a = 0
    · have f1 : (redS p a == 0) = true := by simp [hx]
      have f2 : (mulS p a b == 0) = true := by unfold mulS; rw [← redS_mul_left, hx, Int.zero_mul, redS_zero]; rfl
      clear hx
      go_enter Try.func7, Try.ntmps7
      go_wp2_with (first
        | (go_at_call 42; refine (live01_calls _).mono ?_; rintro e w' ⟨rfl, rfl⟩)
        | (go_at_call 43; refine (known_calls _ _).mono ?_; rintro e w' ⟨rfl, rfl⟩)
        | (go_at_call 45; refine (reduce_calls _ _ _ HP.out (by first | exact HA.out | exact HB.out | exact HC.out)).mono ?_; rintro e w' ⟨rfl, rfl⟩)
        | (go_at_call 44; refine (mul_calls _ _ _ _ HP.out HA.out (by first | exact HB.out | exact HC.out)).mono ?_; rintro e w' ⟨rfl, ⟨n, rfl⟩⟩))
      all_goals
        go_ret
        exact ⟨rfl, by repeat (first | exact Below.refl _ _ | refine below_drewN ?_ _)⟩
    · have f1 : (redS p a == 0) = false := by simpa using hx
      have f2 : (mulS p a b == 0) = (redS p b == 0) := by
        unfold mulS
        rw [Bool.eq_iff_iff]; simp only [beq_iff_eq]
        constructor
        · intro h; rcases redS_mul_zero hk h with h | h
          · exact absurd h hx
          · exact h
        · intro h; rw [← redS_mul_right, h, Int.mul_zero, redS_zero]
      have f3 : (mulS p a b == mulS p a c) = (redS p b == redS p c) := by
        unfold mulS
        rw [Bool.eq_iff_iff]; simp only [beq_iff_eq]
        constructor
        · intro h; exact redS_cancel hk hx h
        · intro h; rw [← redS_mul_right, h, redS_mul_right]
      clear hx
      go_enter Try.func7, Try.ntmps7
      go_wp2_with (first
        | (go_at_call 42; refine (live01_calls _).mono ?_; rintro e w' ⟨rfl, rfl⟩)
        | (go_at_call 43; refine (known_calls _ _).mono ?_; rintro e w' ⟨rfl, rfl⟩)
        | (go_at_call 45; refine (reduce_calls _ _ _ HP.out (by first | exact HA.out | exact HB.out | exact HC.out)).mono ?_; rintro e w' ⟨rfl, rfl⟩)
        | (go_at_call 44; refine (mul_calls _ _ _ _ HP.out HA.out (by first | exact HB.out | exact HC.out)).mono ?_; rintro e w' ⟨rfl, ⟨n, rfl⟩⟩))
      all_goals
        go_ret
        exact ⟨by first | rfl | (simp; done), by repeat (first | exact Below.refl _ _ | refine below_drewN ?_ _)⟩
  · have hk' : knownS p = false := by simpa using hk
    have f1 : (mulS p a b == 0) = true := by unfold mulS; rw [redS_not hk]; rfl
    clear hk
    go_enter Try.func7, Try.ntmps7
    go_wp2_with (first
      | (go_at_call 42; refine (live01_calls _).mono ?_; rintro e w' ⟨rfl, rfl⟩)
      | (go_at_call 43; refine (known_calls _ _).mono ?_; rintro e w' ⟨rfl, rfl⟩)
      | (go_at_call 44; refine (mul_calls _ _ _ _ HP.out HA.out (by first | exact HB.out | exact HC.out)).mono ?_; rintro e w' ⟨rfl, ⟨n, rfl⟩⟩))
    all_goals
      go_ret
      exact ⟨rfl, by repeat (first | exact Below.refl _ _ | refine below_drewN ?_ _)⟩
end Go.Proofs.Ytkofhmiakfmcaaa.P
