/- The contracts of math/bits.Div64 and Rem64 at the two primes below 2^32, and of package field's Mul, Sub, Neg. Conditions: the words are words of 64 bits. -/
import Derived.Test.YtkofhmiakfmcaaaField2
namespace Go.Proofs.Ytkofhmiakfmcaaa.P
open Go.RowKit
set_option linter.unusedVariables false
set_option linter.unusedSimpArgs false

theorem or_join {x y : Int} (i : Nat) (hx0 : 0 ≤ x) (hx : x % 2 ^ i = 0) (hx1 : x < 18446744073709551616) (h0 : 0 ≤ y) (h1 : y < 2 ^ i) (h2 : y < 18446744073709551616) : Go.bits .or .u64 x y = x + y :=
  bits_join .u64 64 (by decide) wraps_u64 i x y hx0 hx hx1 h0 h1 h2
theorem lz_P1 (w : World) : Calls Try.prog 112 #[.int .u64 998244353] w fun e w' => e = .returned (.int .i64 34) ∧ w' = w :=
  (Try.bits_LeadingZeros64 998244353 w (by decide) (by decide)).mono fun e w' ⟨he, hw⟩ => ⟨he.trans (by rw [show Lib.bitLen (998244353 : Int).toNat = 30 from by decide +kernel]; rfl), hw⟩
theorem lz_P2 (w : World) : Calls Try.prog 112 #[.int .u64 2013265921] w fun e w' => e = .returned (.int .i64 33) ∧ w' = w :=
  (Try.bits_LeadingZeros64 2013265921 w (by decide) (by decide)).mono fun e w' ⟨he, hw⟩ => ⟨he.trans (by rw [show Lib.bitLen (2013265921 : Int).toNat = 31 from by decide +kernel]; rfl), hw⟩

theorem div_P1 (x d : Int) (w : World) (hx0 : 0 < x) (hx : x < 998244353) (hd : U64 d) :
    Calls Try.prog 106 #[.int .u64 x, .int .u64 d, .int .u64 998244353] w fun e w' => (∃ q : Int, e = .returned (.tuple #[.int .u64 q, .int .u64 ((x * 18446744073709551616 + d) % 998244353)])) ∧ w' = w := by
  obtain ⟨d0, d1⟩ := hd
  have hor : Go.bits .or .u64 (x * 17179869184) (d / 1073741824) = x * 17179869184 + d / 1073741824 := or_join 34 (by omega) (by omega) (by omega) (by omega) (by omega) (by omega)
  have hw1 : IntKind.u64.wrap (d * 17179869184) = d % 1073741824 * 17179869184 := by rw [wrap_u64]; omega
  have hw2 : Go.bits .and .u64 (d % 1073741824 * 17179869184) 4294967295 = 0 := by rw [and_low ⟨by omega, by omega⟩]; omega
  have hw3 : Go.bits .and .u64 (17149707398206717952) 4294967295 = 0 := by rw [and_low ⟨by omega, by omega⟩]; rfl
  go_enter Try.func106, Try.ntmps106
  go_wp2_with (go_at_call 112; refine (lz_P1 _).mono ?_; rintro e w' ⟨rfl, rfl⟩)
  generalize hU : x * 17179869184 + d / 1073741824 = U at *
  generalize hv : d % 1073741824 = v at *
  have hU0 : 0 ≤ U := by omega
  have hU1 : U < 17149707398206717952 := by omega
  have hv0 : 0 ≤ v := by omega
  have hv1 : v < 1073741824 := by omega
  have HU := Lib.hid hU
  have HV := Lib.hid hv
  clear hU hv hor hw1
  have hW : IntKind.u64.wrap (IntKind.u64.wrap (IntKind.u64.wrap (U * 4294967296) + v * 17179869184 / 4294967296) - IntKind.u64.wrap (U / 3992977412 * 17149707398206717952)) = (U - U / 3992977412 * 3992977412) * 4294967296 + v * 17179869184 / 4294967296 := by
    simp only [wrap_u64]; omega
  have HW := Lib.hid hW
  clear hW
  refine wp_loop_once ?_
  have hW := HW.out
  go_wp2
  clear hW HW
  generalize hT : (U - U / 3992977412 * 3992977412) * 4294967296 + v * 17179869184 / 4294967296 = T at *
  have hT0 : 0 ≤ T := by omega
  have hT1 : T < 17149707398206717952 := by omega
  have HF : Hid (IntKind.u64.wrap (IntKind.u64.wrap (IntKind.u64.wrap (T * 4294967296)) - IntKind.u64.wrap (T / 3992977412 * 17149707398206717952)) / 17179869184 = (x * 18446744073709551616 + d) % 998244353) := Lib.hid (by
    have e1 : IntKind.u64.wrap (IntKind.u64.wrap (IntKind.u64.wrap (T * 4294967296)) - IntKind.u64.wrap (T / 3992977412 * 17149707398206717952)) = (T - T / 3992977412 * 3992977412) * 4294967296 := by simp only [wrap_u64]; omega
    have e2 : x * 18446744073709551616 + d = U * 1073741824 + v := by have := HU.out; have := HV.out; omega
    rw [e1, e2]; omega)
  clear hT
  refine wp_loop_once ?_
  go_wp2
  go_ret2
  exact ⟨⟨_, by rw [← HF.out]; rfl⟩, rfl⟩

theorem div_P2 (x d : Int) (w : World) (hx0 : 0 < x) (hx : x < 2013265921) (hd : U64 d) :
    Calls Try.prog 106 #[.int .u64 x, .int .u64 d, .int .u64 2013265921] w fun e w' => (∃ q : Int, e = .returned (.tuple #[.int .u64 q, .int .u64 ((x * 18446744073709551616 + d) % 2013265921)])) ∧ w' = w := by
  obtain ⟨d0, d1⟩ := hd
  have hor : Go.bits .or .u64 (x * 8589934592) (d / 2147483648) = x * 8589934592 + d / 2147483648 := or_join 33 (by omega) (by omega) (by omega) (by omega) (by omega) (by omega)
  have hw1 : IntKind.u64.wrap (d * 8589934592) = d % 2147483648 * 8589934592 := by rw [wrap_u64]; omega
  have hw2 : Go.bits .and .u64 (d % 2147483648 * 8589934592) 4294967295 = 0 := by rw [and_low ⟨by omega, by omega⟩]; omega
  have hw3 : Go.bits .and .u64 (17293822577692639232) 4294967295 = 0 := by rw [and_low ⟨by omega, by omega⟩]; rfl
  go_enter Try.func106, Try.ntmps106
  go_wp2_with (go_at_call 112; refine (lz_P2 _).mono ?_; rintro e w' ⟨rfl, rfl⟩)
  generalize hU : x * 8589934592 + d / 2147483648 = U at *
  generalize hv : d % 2147483648 = v at *
  have hU0 : 0 ≤ U := by omega
  have hU1 : U < 17293822577692639232 := by omega
  have hv0 : 0 ≤ v := by omega
  have hv1 : v < 2147483648 := by omega
  have HU := Lib.hid hU
  have HV := Lib.hid hv
  clear hU hv hor hw1
  have hW : IntKind.u64.wrap (IntKind.u64.wrap (IntKind.u64.wrap (U * 4294967296) + v * 8589934592 / 4294967296) - IntKind.u64.wrap (U / 4026531842 * 17293822577692639232)) = (U - U / 4026531842 * 4026531842) * 4294967296 + v * 8589934592 / 4294967296 := by
    simp only [wrap_u64]; omega
  have HW := Lib.hid hW
  clear hW
  refine wp_loop_once ?_
  have hW := HW.out
  go_wp2
  clear hW HW
  generalize hT : (U - U / 4026531842 * 4026531842) * 4294967296 + v * 8589934592 / 4294967296 = T at *
  have hT0 : 0 ≤ T := by omega
  have hT1 : T < 17293822577692639232 := by omega
  have HF : Hid (IntKind.u64.wrap (IntKind.u64.wrap (IntKind.u64.wrap (T * 4294967296)) - IntKind.u64.wrap (T / 4026531842 * 17293822577692639232)) / 8589934592 = (x * 18446744073709551616 + d) % 2013265921) := Lib.hid (by
    have e1 : IntKind.u64.wrap (IntKind.u64.wrap (IntKind.u64.wrap (T * 4294967296)) - IntKind.u64.wrap (T / 4026531842 * 17293822577692639232)) = (T - T / 4026531842 * 4026531842) * 4294967296 := by simp only [wrap_u64]; omega
    have e2 : x * 18446744073709551616 + d = U * 2147483648 + v := by have := HU.out; have := HV.out; omega
    rw [e1, e2]; omega)
  clear hT
  refine wp_loop_once ?_
  go_wp2
  go_ret2
  exact ⟨⟨_, by rw [← HF.out]; rfl⟩, rfl⟩

end Go.Proofs.Ytkofhmiakfmcaaa.P
