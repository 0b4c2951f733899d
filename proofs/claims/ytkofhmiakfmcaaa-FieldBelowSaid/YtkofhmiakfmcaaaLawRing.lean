/- The law FieldRing, walked: sums and products hang on no order, and on no brackets. Conditions: the four are words of 64 bits. -/
import Derived.Test.YtkofhmiakfmcaaaField5
namespace Go.Proofs.Ytkofhmiakfmcaaa.P
open Go.RowKit
set_option linter.unusedVariables false
set_option linter.unusedSimpArgs false
theorem live01_calls (w : World) : Calls Try.prog 42 #[] w fun e w' => e = .returned (.bool true) ∧ w' = w := by
  have HF : Hid (addS 998244353 998244352 2 = 1) := Lib.hid (by decide +kernel)
  go_enter Try.func42, Try.ntmps42
  go_wp2_with (go_at_call 49; refine (add_calls _ _ _ _ (by decide) (by decide) (by decide)).mono ?_; rintro e w' ⟨rfl, rfl⟩; rw [HF.out])
  go_ret
  exact ⟨rfl, rfl⟩
theorem ring_walk (p a b c : Int) (w : World) (hp : u64 p) (ha : u64 a) (hb : u64 b) (hc : u64 c) :
    Calls Try.prog 10 #[.int .u64 p, .int .u64 a, .int .u64 b, .int .u64 c] w fun e w' => e = .returned (.bool true) ∧ Below w.heap.size w w' := by
  have f1 : (addS p a b != addS p b a) = false := by simp [addS, Int.add_comm]
  have f2 : (mulS p a b != mulS p b a) = false := by simp [mulS, Int.mul_comm]
  have f3 : (addS p (addS p a b) c != addS p a (addS p b c)) = false := by simp [addS, redS_add_left, redS_add_right, Int.add_assoc]
  have f4 : (mulS p (mulS p a b) c != mulS p a (mulS p b c)) = false := by simp [mulS, redS_mul_left, redS_mul_right, Int.mul_assoc]
  have f5 : (mulS p a (addS p b c) != addS p (mulS p a b) (mulS p a c)) = false := by simp [mulS, addS, redS_add_left, redS_add_right, redS_mul_right, Int.mul_add]
  have f6 : (subS p (addS p a b) b == redS p a) = true := by simp [subS, addS, redS_sub_left, Int.add_sub_cancel]
  have f7 : (mulS p a 1 == redS p a) = true := by simp [mulS]
  have f8 : (addS p a (negS p a) == 0) = true := by simp [addS, negS, redS_add_right, Int.add_right_neg, redS_zero]
  have HA := Lib.hid ha
  have HB := Lib.hid hb
  have HC := Lib.hid hc
  have HP := Lib.hid hp
  clear ha hb hc hp
  go_enter Try.func10, Try.ntmps10
  go_wp2_with (first
    | (go_at_call 42; refine (live01_calls _).mono ?_; rintro e w' ⟨rfl, rfl⟩)
    | (go_at_call 49; refine (add_calls _ _ _ _ HP.out (by first | exact HA.out | exact HB.out | exact HC.out | exact u64_redS _ _) (by first | exact HA.out | exact HB.out | exact HC.out | exact u64_redS _ _)).mono ?_; rintro e w' ⟨rfl, rfl⟩)
    | (go_at_call 50; refine (sub_calls _ _ _ _ HP.out (by first | exact HA.out | exact HB.out | exact HC.out | exact u64_redS _ _) (by first | exact HA.out | exact HB.out | exact HC.out | exact u64_redS _ _)).mono ?_; rintro e w' ⟨rfl, rfl⟩)
    | (go_at_call 51; refine (neg_calls _ _ _ HP.out (by first | exact HA.out | exact HB.out | exact HC.out | exact u64_redS _ _)).mono ?_; rintro e w' ⟨rfl, rfl⟩)
    | (go_at_call 45; refine (reduce_calls _ _ _ HP.out (by first | exact HA.out | exact HB.out | exact HC.out | exact u64_redS _ _)).mono ?_; rintro e w' ⟨rfl, rfl⟩)
    | (go_at_call 44; refine (mul_calls _ _ _ _ HP.out (by first | exact HA.out | exact HB.out | exact HC.out | exact u64_redS _ _) (by first | decide | exact HA.out | exact HB.out | exact HC.out | exact u64_redS _ _)).mono ?_; rintro e w' ⟨rfl, ⟨n, rfl⟩⟩))
  go_ret
  exact ⟨rfl, by repeat (first | exact Below.refl _ _ | refine below_drewN ?_ _)⟩
end Go.Proofs.Ytkofhmiakfmcaaa.P
