/- The contracts of math/bits.Rem64 at the two primes below 2^32, and of package field's Mul, Sub, Neg, In. Conditions: the words are words of 64 bits. -/
import Derived.Test.YtkofhmiakfmcaaaField3
namespace Go.Proofs.Ytkofhmiakfmcaaa.P
open Go.RowKit
set_option linter.unusedVariables false
set_option linter.unusedSimpArgs false

theorem div_zero (d y : Int) (w : World) (hy0 : 0 < y) (hy : y < 18446744073709551616) (hd : U64 d) :
    Calls Try.prog 106 #[.int .u64 0, .int .u64 d, .int .u64 y] w fun e w' => (∃ q : Int, e = .returned (.tuple #[.int .u64 q, .int .u64 (d % y)])) ∧ Drawn0 w w' := by
  obtain ⟨d0, d1⟩ := hd
  have hy1 : (y == 0) = false := by simp; omega
  go_enter Try.func106, Try.ntmps106
  go_wp2
  go_quiet (fail)
  go_wp2
  go_ret2
  exact ⟨⟨_, rfl⟩, ⟨_, rfl⟩⟩
theorem rem_P1 (h d : Int) (w : World) (hh : U64 h) (hd : U64 d) :
    Calls Try.prog 93 #[.int .u64 h, .int .u64 d, .int .u64 998244353] w fun e w' => e = .returned (.int .u64 ((h * 18446744073709551616 + d) % 998244353)) ∧ Drawn0 w w' := by
  have HD := Lib.hid hd
  obtain ⟨h0, h1⟩ := hh
  by_cases hz : h % 998244353 = 0
  · have HF : Hid ((h * 18446744073709551616 + d) % 998244353 = d % 998244353) := Lib.hid (by omega)
    go_enter Try.func93, Try.ntmps93
    go_wp2_with (go_at_call 106; refine (div_zero _ _ _ (by decide) (by decide) HD.out).mono ?_; rintro e w' ⟨⟨q, rfl⟩, ⟨n, rfl⟩⟩)
    go_ret
    exact ⟨by rw [HF.out]; rfl, ⟨_, rfl⟩⟩
  · have HF : Hid ((h * 18446744073709551616 + d) % 998244353 = (h % 998244353 * 18446744073709551616 + d) % 998244353) := Lib.hid (by omega)
    go_enter Try.func93, Try.ntmps93
    go_wp2_with (go_at_call 106; refine (div_P1 _ _ _ (by omega) (by omega) HD.out).mono ?_; rintro e w' ⟨⟨q, rfl⟩, rfl⟩)
    go_ret
    exact ⟨by rw [HF.out]; rfl, ⟨0, rfl⟩⟩
theorem rem_P2 (h d : Int) (w : World) (hh : U64 h) (hd : U64 d) :
    Calls Try.prog 93 #[.int .u64 h, .int .u64 d, .int .u64 2013265921] w fun e w' => e = .returned (.int .u64 ((h * 18446744073709551616 + d) % 2013265921)) ∧ Drawn0 w w' := by
  have HD := Lib.hid hd
  obtain ⟨h0, h1⟩ := hh
  by_cases hz : h % 2013265921 = 0
  · have HF : Hid ((h * 18446744073709551616 + d) % 2013265921 = d % 2013265921) := Lib.hid (by omega)
    go_enter Try.func93, Try.ntmps93
    go_wp2_with (go_at_call 106; refine (div_zero _ _ _ (by decide) (by decide) HD.out).mono ?_; rintro e w' ⟨⟨q, rfl⟩, ⟨n, rfl⟩⟩)
    go_ret
    exact ⟨by rw [HF.out]; rfl, ⟨_, rfl⟩⟩
  · have HF : Hid ((h * 18446744073709551616 + d) % 2013265921 = (h % 2013265921 * 18446744073709551616 + d) % 2013265921) := Lib.hid (by omega)
    go_enter Try.func93, Try.ntmps93
    go_wp2_with (go_at_call 106; refine (div_P2 _ _ _ (by omega) (by omega) HD.out).mono ?_; rintro e w' ⟨⟨q, rfl⟩, rfl⟩)
    go_ret
    exact ⟨by rw [HF.out]; rfl, ⟨0, rfl⟩⟩
theorem mul64_calls (x y : Int) (w : World) (hx : U64 x) (hy : U64 y) :
    Calls Try.prog 91 #[.int .u64 x, .int .u64 y] w fun e w' => (∃ h d : Int, e = .returned (.tuple #[.int .u64 h, .int .u64 d]) ∧ U64 h ∧ U64 d ∧ h * 18446744073709551616 + d = x * y) ∧ w' = w := by
  obtain ⟨x0, x1⟩ := hx
  obtain ⟨y0, y1⟩ := hy
  obtain ⟨X, rfl⟩ := Int.eq_ofNat_of_zero_le x0
  obtain ⟨Y, rfl⟩ := Int.eq_ofNat_of_zero_le y0
  have hX : X < 18446744073709551616 := by omega
  have hY : Y < 18446744073709551616 := by omega
  refine (Try.bits_Mul64 X Y hX hY w).mono fun e w' ⟨he, hw⟩ => ⟨⟨_, _, he, ?_, ?_, ?_⟩, hw⟩
  · refine ⟨by omega, ?_⟩
    have : X * Y < 18446744073709551616 * 18446744073709551616 := Nat.mul_lt_mul'' hX hY
    omega
  · exact ⟨by omega, by omega⟩
  · have := Nat.div_add_mod (X * Y) 18446744073709551616
    rw [← Int.natCast_mul]; omega
theorem mul_calls (p a b : Int) (w : World) (hp : U64 p) (ha : U64 a) (hb : U64 b) :
    Calls Try.prog 44 #[.int .u64 p, .int .u64 a, .int .u64 b] w fun e w' => e = .returned (.int .u64 (mulS p a b)) ∧ Drawn0 w w' := by
  by_cases hk : knownS p = true
  · have hux := u64_redS p a
    have huy := u64_redS p b
    have HS : Hid (mulS p a b = redS p (redS p a * redS p b)) := Lib.hid (by unfold mulS; rw [redS_mul_left, redS_mul_right])
    have HA := Lib.hid ha
    have HB := Lib.hid hb
    have HP := Lib.hid hp
    have HX := Lib.hid hux
    have HY := Lib.hid huy
    clear ha hb hp hux huy
    rcases knownS_cases hk with rfl | rfl | rfl
    · go_enter Try.func44, Try.ntmps44
      go_wp2_with (first
        | (go_at_call 43; refine (known_calls _ _).mono ?_; rintro e w' ⟨rfl, rfl⟩)
        | (go_at_call 45; refine (reduce_calls _ _ _ HP.out (by first | exact HA.out | exact HB.out)).mono ?_; rintro e w' ⟨rfl, rfl⟩)
        | (go_at_call 91; refine (mul64_calls _ _ _ HX.out HY.out).mono ?_; rintro e w' ⟨⟨h, d, rfl, uh, ud, he⟩, rfl⟩; have HE := Lib.hid he; have HH := Lib.hid uh; have HD := Lib.hid ud; clear he uh ud)
        | (go_at_call 92; refine (gold_calls _ _ _ HH.out HD.out).mono ?_; rintro e w' ⟨rfl, rfl⟩))
      go_ret
      exact ⟨by rw [HS.out, ← HE.out]; rfl, ⟨0, rfl⟩⟩
    · go_enter Try.func44, Try.ntmps44
      go_wp2_with (first
        | (go_at_call 43; refine (known_calls _ _).mono ?_; rintro e w' ⟨rfl, rfl⟩)
        | (go_at_call 45; refine (reduce_calls _ _ _ HP.out (by first | exact HA.out | exact HB.out)).mono ?_; rintro e w' ⟨rfl, rfl⟩)
        | (go_at_call 91; refine (mul64_calls _ _ _ HX.out HY.out).mono ?_; rintro e w' ⟨⟨h, d, rfl, uh, ud, he⟩, rfl⟩; have HE := Lib.hid he; have HH := Lib.hid uh; have HD := Lib.hid ud; clear he uh ud)
        | (go_at_call 93; refine (rem_P1 _ _ _ HH.out HD.out).mono ?_; rintro e w' ⟨rfl, ⟨n, rfl⟩⟩))
      go_ret
      exact ⟨by rw [HS.out, ← HE.out, redS_known hk]; rfl, ⟨_, rfl⟩⟩
    · go_enter Try.func44, Try.ntmps44
      go_wp2_with (first
        | (go_at_call 43; refine (known_calls _ _).mono ?_; rintro e w' ⟨rfl, rfl⟩)
        | (go_at_call 45; refine (reduce_calls _ _ _ HP.out (by first | exact HA.out | exact HB.out)).mono ?_; rintro e w' ⟨rfl, rfl⟩)
        | (go_at_call 91; refine (mul64_calls _ _ _ HX.out HY.out).mono ?_; rintro e w' ⟨⟨h, d, rfl, uh, ud, he⟩, rfl⟩; have HE := Lib.hid he; have HH := Lib.hid uh; have HD := Lib.hid ud; clear he uh ud)
        | (go_at_call 93; refine (rem_P2 _ _ _ HH.out HD.out).mono ?_; rintro e w' ⟨rfl, ⟨n, rfl⟩⟩))
      go_ret
      exact ⟨by rw [HS.out, ← HE.out, redS_known hk]; rfl, ⟨_, rfl⟩⟩
  · have HR : Hid (mulS p a b = 0) := Lib.hid (redS_not hk)
    have hk' : knownS p = false := by simpa using hk
    clear hk
    go_enter Try.func44, Try.ntmps44
    go_wp2_with (go_at_call 43; refine (known_calls _ _).mono ?_; rintro e w' ⟨rfl, rfl⟩)
    go_ret
    exact ⟨by rw [HR.out]; rfl, ⟨0, rfl⟩⟩
theorem sub_calls (p a b : Int) (w : World) (hp : U64 p) (ha : U64 a) (hb : U64 b) :
    Calls Try.prog 50 #[.int .u64 p, .int .u64 a, .int .u64 b] w fun e w' => e = .returned (.int .u64 (subS p a b)) ∧ w' = w := by
  by_cases hk : knownS p = true
  · have hx0 := redS_lo p a
    have hx1 := redS_hi a hk
    have hy0 := redS_lo p b
    have hy1 := redS_hi b hk
    have hsub := run_sub (redS p a) (redS p b) (u64_redS _ _) (u64_redS _ _)
    obtain ⟨hp0, hp1⟩ := hp
    have HA := Lib.hid ha
    have HB := Lib.hid hb
    have HP : Hid (U64 p) := Lib.hid ⟨hp0, hp1⟩
    clear ha hb
    by_cases h1 : redS p a < redS p b
    · have HC : Hid (subS p a b = redS p a - redS p b + p) := Lib.hid (by
        unfold subS
        rw [← redS_sub_left, ← redS_sub_right, redS_known hk, ← Int.add_emod_right]; exact Int.emod_eq_of_lt (by omega) (by omega))
      have HW : Hid (IntKind.u64.wrap (redS p a - redS p b + 18446744073709551616 + p) = redS p a - redS p b + p) := Lib.hid (by rw [wrap_u64]; omega)
      rw [if_pos h1, show (redS p a - redS p b) % 18446744073709551616 = redS p a - redS p b + 18446744073709551616 from by omega] at hsub
      go_enter Try.func50, Try.ntmps50
      go_wp2_with (first
        | (go_at_call 43; refine (known_calls _ _).mono ?_; rintro e w' ⟨rfl, rfl⟩)
        | (go_at_call 45; refine (reduce_calls _ _ _ HP.out (by first | exact HA.out | exact HB.out)).mono ?_; rintro e w' ⟨rfl, rfl⟩))
      go_ret
      exact ⟨by rw [HC.out, ← HW.out]; rfl, rfl⟩
    · have HC : Hid (subS p a b = redS p a - redS p b) := Lib.hid (by
        unfold subS
        rw [← redS_sub_left, ← redS_sub_right]; exact redS_small hk (by omega) (by omega))
      rw [if_neg h1, show (redS p a - redS p b) % 18446744073709551616 = redS p a - redS p b from by omega] at hsub
      go_enter Try.func50, Try.ntmps50
      go_wp2_with (first
        | (go_at_call 43; refine (known_calls _ _).mono ?_; rintro e w' ⟨rfl, rfl⟩)
        | (go_at_call 45; refine (reduce_calls _ _ _ HP.out (by first | exact HA.out | exact HB.out)).mono ?_; rintro e w' ⟨rfl, rfl⟩))
      go_ret
      exact ⟨by rw [HC.out]; rfl, rfl⟩
  · have HR : Hid (subS p a b = 0) := Lib.hid (redS_not hk)
    have hk' : knownS p = false := by simpa using hk
    clear hk
    go_enter Try.func50, Try.ntmps50
    go_wp2_with (go_at_call 43; refine (known_calls _ _).mono ?_; rintro e w' ⟨rfl, rfl⟩)
    go_ret
    exact ⟨by rw [HR.out]; rfl, rfl⟩
theorem neg_calls (p a : Int) (w : World) (hp : U64 p) (ha : U64 a) :
    Calls Try.prog 51 #[.int .u64 p, .int .u64 a] w fun e w' => e = .returned (.int .u64 (negS p a)) ∧ w' = w := by
  have HN : Hid (negS p a = subS p 0 a) := Lib.hid (by unfold negS subS; rw [Int.zero_sub])
  have HA := Lib.hid ha
  have HP := Lib.hid hp
  clear ha hp
  go_enter Try.func51, Try.ntmps51
  go_wp2_with (go_at_call 50; refine (sub_calls _ _ _ _ HP.out (by decide) HA.out).mono ?_; rintro e w' ⟨rfl, rfl⟩)
  go_ret
  exact ⟨by rw [HN.out]; rfl, rfl⟩
end Go.Proofs.Ytkofhmiakfmcaaa.P
