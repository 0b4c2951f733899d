/- The contracts of package field's sums: Add, Sub, Neg, In come to addS, subS, negS, inS. Conditions: the words are words of 64 bits. -/
import Derived.Test.YtkofhmiakfmcaaaField0
namespace Go.Proofs.Ytkofhmiakfmcaaa.P
open Go.RowKit
set_option linter.unusedVariables false
set_option linter.unusedSimpArgs false

theorem add_calls (p a b : Int) (w : World) (hp : U64 p) (ha : U64 a) (hb : U64 b) :
    Calls Try.prog 49 #[.int .u64 p, .int .u64 a, .int .u64 b] w fun e w' => e = .returned (.int .u64 (addS p a b)) ∧ w' = w := by
  by_cases hk : knownS p = true
  · have hx0 := redS_lo p a
    have hx1 := redS_hi a hk
    have hy0 := redS_lo p b
    have hy1 := redS_hi b hk
    have HS : Hid (addS p a b = if p ≤ redS p a + redS p b then redS p a + redS p b - p else redS p a + redS p b) := Lib.hid (by
      unfold addS
      rw [← redS_add_left, ← redS_add_right]
      split
      · rw [redS_known hk, ← Int.sub_emod_right]; exact Int.emod_eq_of_lt (by omega) (by omega)
      · exact redS_small hk (by omega) (by omega))
    have hadd := run_add (redS p a) (redS p b) (u64_redS _ _) (u64_redS _ _)
    obtain ⟨hp0, hp1⟩ := hp
    have HA := Lib.hid ha
    have HB := Lib.hid hb
    have HP : Hid (U64 p) := Lib.hid ⟨hp0, hp1⟩
    clear ha hb
    by_cases h1 : 18446744073709551616 ≤ redS p a + redS p b
    · have e1 : (redS p a + redS p b) % 18446744073709551616 = redS p a + redS p b - 18446744073709551616 := by omega
      have e2 : (redS p a + redS p b) / 18446744073709551616 = 1 := by omega
      rw [e1, e2] at hadd
      have HC : Hid (addS p a b = redS p a + redS p b - p) := Lib.hid (by rw [HS.out, if_pos (by omega)])
      have HW : Hid (IntKind.u64.wrap (redS p a + redS p b - 18446744073709551616 - p) = redS p a + redS p b - p) := Lib.hid (by
        simp only [IntKind.wrap, IntKind.signed, IntKind.bits]; simp; omega)
      clear e1 e2 HS
      go_enter Try.func49, Try.ntmps49
      go_wp2_with (first
        | (go_at_call 43; refine (known_calls _ _).mono ?_; rintro e w' ⟨rfl, rfl⟩)
        | (go_at_call 45; refine (reduce_calls _ _ _ HP.out (by first | exact HA.out | exact HB.out)).mono ?_; rintro e w' ⟨rfl, rfl⟩))
      go_ret
      exact ⟨by first | (rw [HC.out]; done) | (rw [HC.out, ← HW.out]; rfl), rfl⟩
    · have e1 : (redS p a + redS p b) % 18446744073709551616 = redS p a + redS p b := by omega
      have e2 : (redS p a + redS p b) / 18446744073709551616 = 0 := by omega
      rw [e1, e2] at hadd
      clear e1 e2
      by_cases h2 : p ≤ redS p a + redS p b
      · have HC : Hid (addS p a b = redS p a + redS p b - p) := Lib.hid (by rw [HS.out, if_pos (by omega)])
        clear HS
        go_enter Try.func49, Try.ntmps49
        go_wp2_with (first
          | (go_at_call 43; refine (known_calls _ _).mono ?_; rintro e w' ⟨rfl, rfl⟩)
          | (go_at_call 45; refine (reduce_calls _ _ _ HP.out (by first | exact HA.out | exact HB.out)).mono ?_; rintro e w' ⟨rfl, rfl⟩))
        go_ret
        exact ⟨by rw [HC.out]; rfl, rfl⟩
      · have HC : Hid (addS p a b = redS p a + redS p b) := Lib.hid (by rw [HS.out, if_neg (by omega)])
        clear HS
        go_enter Try.func49, Try.ntmps49
        go_wp2_with (first
          | (go_at_call 43; refine (known_calls _ _).mono ?_; rintro e w' ⟨rfl, rfl⟩)
          | (go_at_call 45; refine (reduce_calls _ _ _ HP.out (by first | exact HA.out | exact HB.out)).mono ?_; rintro e w' ⟨rfl, rfl⟩))
        go_ret
        exact ⟨by rw [HC.out]; rfl, rfl⟩
  · have HR : Hid (addS p a b = 0) := Lib.hid (redS_not hk)
    have hk' : knownS p = false := by simpa using hk
    clear hk
    go_enter Try.func49, Try.ntmps49
    go_wp2_with (go_at_call 43; refine (known_calls _ _).mono ?_; rintro e w' ⟨rfl, rfl⟩)
    go_ret
    exact ⟨by rw [HR.out]; rfl, rfl⟩
end Go.Proofs.Ytkofhmiakfmcaaa.P
