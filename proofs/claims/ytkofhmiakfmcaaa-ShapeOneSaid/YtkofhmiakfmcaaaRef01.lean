/- The contracts of package brackenref01's functions: they come to what the field's come to. Conditions: the words are words of 64 bits. -/
import Derived.Test.YtkofhmiakfmcaaaField5
namespace Go.Proofs.Ytkofhmiakfmcaaa.P
open Go.RowKit
set_option linter.unusedVariables false
set_option linter.unusedSimpArgs false
theorem r01_known (p : Int) (w : World) :
    Calls Try.prog 52 #[.int .u64 p] w fun e w' => e = .returned (.bool (knownS p)) ∧ w' = w := by
  by_cases h0 : (p == 18446744069414584321) = true
  · have HK : Hid (knownS p = true) := Lib.hid (by simp [knownS, h0])
    go_enter Try.func52, Try.ntmps52
    go_wp2
    go_ret
    exact ⟨by rw [HK.out]; rfl, rfl⟩
  · replace h0 : (p == 18446744069414584321) = false := by simpa using h0
    by_cases h1 : (p == 998244353) = true
    · have HK : Hid (knownS p = true) := Lib.hid (by simp [knownS, h1])
      go_enter Try.func52, Try.ntmps52
      go_wp2
      go_ret
      exact ⟨by rw [HK.out]; rfl, rfl⟩
    · replace h1 : (p == 998244353) = false := by simpa using h1
      have HK : Hid (knownS p = (p == 2013265921)) := Lib.hid (by simp [knownS, h0, h1])
      go_enter Try.func52, Try.ntmps52
      go_wp2
      go_ret
      exact ⟨by rw [HK.out]; rfl, rfl⟩
theorem r01_reduce (p a : Int) (w : World) (hp : U64 p) (ha : U64 a) :
    Calls Try.prog 59 #[.int .u64 p, .int .u64 a] w fun e w' => e = .returned (.int .u64 (redS p a)) ∧ w' = w := by
  obtain ⟨hp0, hp1⟩ := hp
  obtain ⟨ha0, ha1⟩ := ha
  by_cases hk : knownS p = true
  · have HR : Hid (redS p a = a % p) := Lib.hid (redS_known hk)
    have hpp := (known_pos hk).1
    go_enter Try.func59, Try.ntmps59
    go_wp2_with (go_at_call 52; refine (r01_known _ _).mono ?_; rintro e w' ⟨rfl, rfl⟩)
    go_ret
    exact ⟨by rw [HR.out]; rfl, rfl⟩
  · have HR : Hid (redS p a = 0) := Lib.hid (redS_not hk)
    have hk' : knownS p = false := by simpa using hk
    clear hk
    go_enter Try.func59, Try.ntmps59
    go_wp2_with (go_at_call 52; refine (r01_known _ _).mono ?_; rintro e w' ⟨rfl, rfl⟩)
    go_ret
    exact ⟨by rw [HR.out]; rfl, rfl⟩
theorem sub_of {p a b : Int} (hk : knownS p = true) : subS p a b = if redS p b ≤ redS p a then redS p a - redS p b else p - (redS p b - redS p a) := by
  have hx0 := redS_lo p a
  have hx1 := redS_hi a hk
  have hy0 := redS_lo p b
  have hy1 := redS_hi b hk
  unfold subS
  rw [← redS_sub_left, ← redS_sub_right]
  split
  · exact redS_small hk (by omega) (by omega)
  · rw [redS_known hk, ← Int.add_emod_right]
    rw [show redS p a - redS p b + p = p - (redS p b - redS p a) from by omega]
    exact Int.emod_eq_of_lt (by omega) (by omega)
theorem r01_sub (p a b : Int) (w : World) (hp : U64 p) (ha : U64 a) (hb : U64 b) :
    Calls Try.prog 56 #[.int .u64 p, .int .u64 a, .int .u64 b] w fun e w' => e = .returned (.int .u64 (subS p a b)) ∧ w' = w := by
  have hx0 := redS_lo p a
  have hy0 := redS_lo p b
  have HA := Lib.hid ha
  have HB := Lib.hid hb
  have HP := Lib.hid hp
  obtain ⟨hp0, hp1⟩ := hp
  clear ha hb
  by_cases hk : knownS p = true
  · have hx1 := redS_hi a hk
    have hy1 := redS_hi b hk
    have HS := Lib.hid (sub_of (a := a) (b := b) hk)
    clear hk
    by_cases hle : redS p b ≤ redS p a
    · have HC : Hid (subS p a b = redS p a - redS p b) := Lib.hid (by rw [HS.out, if_pos hle])
      go_enter Try.func56, Try.ntmps56
      go_wp2_with (go_at_call 59; refine (r01_reduce _ _ _ HP.out (by first | exact HA.out | exact HB.out)).mono ?_; rintro e w' ⟨rfl, rfl⟩)
      go_ret
      exact ⟨by rw [HC.out]; rfl, rfl⟩
    · have HC : Hid (subS p a b = p - (redS p b - redS p a)) := Lib.hid (by rw [HS.out, if_neg hle])
      go_enter Try.func56, Try.ntmps56
      go_wp2_with (go_at_call 59; refine (r01_reduce _ _ _ HP.out (by first | exact HA.out | exact HB.out)).mono ?_; rintro e w' ⟨rfl, rfl⟩)
      go_ret
      exact ⟨by rw [HC.out]; rfl, rfl⟩
  · have HC : Hid (subS p a b = 0) := Lib.hid (redS_not hk)
    have e1 : redS p a = 0 := redS_not hk
    have e2 : redS p b = 0 := redS_not hk
    clear hk hx0 hy0
    go_enter Try.func56, Try.ntmps56
    go_wp2_with (go_at_call 59; refine (r01_reduce _ _ _ HP.out (by first | exact HA.out | exact HB.out)).mono ?_; rintro e w' ⟨rfl, rfl⟩)
    go_ret
    exact ⟨by rw [HC.out]; rfl, rfl⟩
theorem r01_neg (p a : Int) (w : World) (hp : U64 p) (ha : U64 a) :
    Calls Try.prog 58 #[.int .u64 p, .int .u64 a] w fun e w' => e = .returned (.int .u64 (negS p a)) ∧ w' = w := by
  have HN : Hid (negS p a = subS p 0 a) := Lib.hid (by unfold negS subS; rw [Int.zero_sub])
  have HA := Lib.hid ha
  have HP := Lib.hid hp
  clear ha hp
  go_enter Try.func58, Try.ntmps58
  go_wp2_with (go_at_call 56; refine (r01_sub _ _ _ _ HP.out (by decide) HA.out).mono ?_; rintro e w' ⟨rfl, rfl⟩)
  go_ret
  exact ⟨by rw [HN.out]; rfl, rfl⟩
/-- plus, of two that are below the prime. -/
theorem r01_plus (p a b : Int) (w : World) (hk : knownS p = true) (ha0 : 0 ≤ a) (ha : a < p) (hb0 : 0 ≤ b) (hb : b < p) :
    Calls Try.prog 97 #[.int .u64 p, .int .u64 a, .int .u64 b] w fun e w' => e = .returned (.int .u64 (redS p (a + b))) ∧ w' = w := by
  obtain ⟨hp0, hp1⟩ := known_pos hk
  by_cases h : p ≤ a + b
  · have HC : Hid (redS p (a + b) = a - (p - b)) := Lib.hid (by
      rw [redS_known hk, ← Int.sub_emod_right, show a + b - p = a - (p - b) from by omega]; exact Int.emod_eq_of_lt (by omega) (by omega))
    clear hk
    go_enter Try.func97, Try.ntmps97
    go_wp2
    go_ret
    exact ⟨by rw [HC.out]; rfl, rfl⟩
  · have HC : Hid (redS p (a + b) = a + b) := Lib.hid (redS_small hk (by omega) (by omega))
    clear hk
    go_enter Try.func97, Try.ntmps97
    go_wp2
    go_ret
    exact ⟨by rw [HC.out]; rfl, rfl⟩
theorem r01_add (p a b : Int) (w : World) (hp : U64 p) (ha : U64 a) (hb : U64 b) :
    Calls Try.prog 55 #[.int .u64 p, .int .u64 a, .int .u64 b] w fun e w' => e = .returned (.int .u64 (addS p a b)) ∧ Drawn0 w w' := by
  by_cases hk : knownS p = true
  · have HK := Lib.hid hk
    have HS : Hid (addS p a b = redS p (a % p + b % p)) := Lib.hid (by unfold addS; rw [redS_known hk, redS_known hk, ← Int.add_emod])
    have hm0 := Int.emod_nonneg a (b := p) (by have := (known_pos hk).1; omega)
    have hm1 := Int.emod_lt_of_pos a (b := p) (by have := (known_pos hk).1; omega)
    have hn0 := Int.emod_nonneg b (b := p) (by have := (known_pos hk).1; omega)
    have hn1 := Int.emod_lt_of_pos b (b := p) (by have := (known_pos hk).1; omega)
    obtain ⟨hp0, hp1⟩ := known_pos hk
    obtain ⟨ha0, ha1⟩ := ha
    obtain ⟨hb0, hb1⟩ := hb
    have hz : (p == 0) = false := by simp; omega
    go_enter Try.func55, Try.ntmps55
    go_wp2_with (go_at_call 52; refine (r01_known _ _).mono ?_; rintro e w' ⟨rfl, rfl⟩)
    go_quiet ((go_at_call 97; exact Calls.quiet_of_same ((r01_plus p (a % p) (b % p) _ HK.out (by assumption) (by assumption) (by assumption) (by assumption)).mono fun e w' h => h)))
    go_wp2
    go_ret
    exact ⟨by rw [HS.out]; rfl, ⟨_, rfl⟩⟩
  · have HR : Hid (addS p a b = 0) := Lib.hid (redS_not hk)
    have hk' : knownS p = false := by simpa using hk
    clear hk
    go_enter Try.func55, Try.ntmps55
    go_wp2_with (go_at_call 52; refine (r01_known _ _).mono ?_; rintro e w' ⟨rfl, rfl⟩)
    go_ret
    exact ⟨by rw [HR.out]; rfl, ⟨0, rfl⟩⟩
end Go.Proofs.Ytkofhmiakfmcaaa.P
