/- The contracts of package field's products: gold, Rem64, Mul come to mulS. Conditions: the words are words of 64 bits. -/
import Derived.Test.YtkofhmiakfmcaaaField1
import Derived.Test.YtkofhmiakfmcaaaShelf
import Derived.Laws.BitsLemmas
namespace Go.Proofs.Ytkofhmiakfmcaaa.P
open Go.RowKit
set_option linter.unusedVariables false
set_option linter.unusedSimpArgs false

theorem wrap_u64 (n : Int) : IntKind.u64.wrap n = n % 18446744073709551616 := by simp [IntKind.wrap, IntKind.bits, IntKind.signed]
theorem wraps_u64 (n : Int) (h₀ : 0 ≤ n) (h₁ : n < 2 ^ 64) : IntKind.u64.wrap n = n := by rw [wrap_u64]; omega
theorem and_low {x : Int} (hx : U64 x) : Go.bits .and .u64 x 4294967295 = x % 4294967296 :=
  bits_mask .u64 64 (by decide) wraps_u64 32 (by decide) x hx.1 hx.2

theorem gold_fact (h d L S : Int) (hh : U64 h) (hL : L = d - h / 4294967296 ∨ L = d - h / 4294967296 + 18446744069414584321)
    (hS : S = L + h % 4294967296 * 4294967295 ∨ S = L + h % 4294967296 * 4294967295 - 18446744069414584321) :
    redS 18446744069414584321 S = redS P0 (h * 18446744073709551616 + d) := by
  have hk : knownS 18446744069414584321 = true := rfl
  unfold P0
  rw [redS_eq_iff hk]
  obtain ⟨h0, h1⟩ := hh
  have e : h = h / 4294967296 * 4294967296 + h % 4294967296 := by omega
  generalize h / 4294967296 = t at *
  generalize h % 4294967296 = m at *
  subst e
  rcases hL with rfl | rfl <;> rcases hS with rfl | rfl
  · exact ⟨-(t * 4294967297 + m), by omega⟩
  · exact ⟨-(t * 4294967297 + m) - 1, by omega⟩
  · exact ⟨-(t * 4294967297 + m) + 1, by omega⟩
  · exact ⟨-(t * 4294967297 + m), by omega⟩

theorem gold_calls (h d : Int) (w : World) (hh : U64 h) (hd : U64 d) :
    Calls Try.prog 92 #[.int .u64 h, .int .u64 d] w fun e w' => e = .returned (.int .u64 (redS P0 (h * 18446744073709551616 + d))) ∧ w' = w := by
  have hand := and_low hh
  have HF := Lib.hid (fun L S => gold_fact h d L S hh)
  have hut : U64 (h / 4294967296) := by obtain ⟨a, b⟩ := hh; exact ⟨by omega, by omega⟩
  have hsub := run_sub d (h / 4294967296) hd hut
  obtain ⟨h0, h1⟩ := hh
  obtain ⟨d0, d1⟩ := hd
  have HP : Hid (U64 18446744069414584321) := Lib.hid ⟨by omega, by omega⟩
  clear hut
  by_cases hb : d < h / 4294967296
  · have e1 : (d - h / 4294967296) % 18446744073709551616 = d - h / 4294967296 + 18446744073709551616 := by omega
    rw [e1, if_pos hb] at hsub
    clear e1
    have hadd := run_add (d - h / 4294967296 + 18446744073709551616 - 4294967295) (h % 4294967296 * 4294967295) ⟨by omega, by omega⟩ ⟨by omega, by omega⟩
    by_cases hc : 18446744073709551616 ≤ d - h / 4294967296 + 18446744073709551616 - 4294967295 + h % 4294967296 * 4294967295
    · have e1 : (d - h / 4294967296 + 18446744073709551616 - 4294967295 + h % 4294967296 * 4294967295) % 18446744073709551616 = d - h / 4294967296 + 18446744073709551616 - 4294967295 + h % 4294967296 * 4294967295 - 18446744073709551616 := by omega
      have e2 : (d - h / 4294967296 + 18446744073709551616 - 4294967295 + h % 4294967296 * 4294967295) / 18446744073709551616 = 1 := by omega
      rw [e1, e2] at hadd
      clear e1 e2
      have HU : Hid (U64 (d - h / 4294967296 + 18446744073709551616 - 4294967295 + h % 4294967296 * 4294967295 - 18446744073709551616 + 4294967295)) := Lib.hid ⟨by omega, by omega⟩
      have HR : Hid (redS 18446744069414584321 (d - h / 4294967296 + 18446744073709551616 - 4294967295 + h % 4294967296 * 4294967295 - 18446744073709551616 + 4294967295) = redS P0 (h * 18446744073709551616 + d)) := Lib.hid (HF.out _ _ (.inr rfl) (.inr (by omega)))
      go_enter Try.func92, Try.ntmps92
      go_wp2_with (go_at_call 45; refine (reduce_calls _ _ _ HP.out HU.out).mono ?_; rintro e w' ⟨rfl, rfl⟩)
      go_ret
      exact ⟨by rw [← HR.out]; rfl, rfl⟩
    · have e1 : (d - h / 4294967296 + 18446744073709551616 - 4294967295 + h % 4294967296 * 4294967295) % 18446744073709551616 = d - h / 4294967296 + 18446744073709551616 - 4294967295 + h % 4294967296 * 4294967295 := by omega
      have e2 : (d - h / 4294967296 + 18446744073709551616 - 4294967295 + h % 4294967296 * 4294967295) / 18446744073709551616 = 0 := by omega
      rw [e1, e2] at hadd
      clear e1 e2
      have HU : Hid (U64 (d - h / 4294967296 + 18446744073709551616 - 4294967295 + h % 4294967296 * 4294967295)) := Lib.hid ⟨by omega, by omega⟩
      have HR : Hid (redS 18446744069414584321 (d - h / 4294967296 + 18446744073709551616 - 4294967295 + h % 4294967296 * 4294967295) = redS P0 (h * 18446744073709551616 + d)) := Lib.hid (HF.out _ _ (.inr rfl) (.inl (by omega)))
      go_enter Try.func92, Try.ntmps92
      go_wp2_with (go_at_call 45; refine (reduce_calls _ _ _ HP.out HU.out).mono ?_; rintro e w' ⟨rfl, rfl⟩)
      go_ret
      exact ⟨by rw [← HR.out]; rfl, rfl⟩
  · have e1 : (d - h / 4294967296) % 18446744073709551616 = d - h / 4294967296 := by omega
    rw [e1, if_neg hb] at hsub
    clear e1
    have hadd := run_add (d - h / 4294967296) (h % 4294967296 * 4294967295) ⟨by omega, by omega⟩ ⟨by omega, by omega⟩
    by_cases hc : 18446744073709551616 ≤ d - h / 4294967296 + h % 4294967296 * 4294967295
    · have e1 : (d - h / 4294967296 + h % 4294967296 * 4294967295) % 18446744073709551616 = d - h / 4294967296 + h % 4294967296 * 4294967295 - 18446744073709551616 := by omega
      have e2 : (d - h / 4294967296 + h % 4294967296 * 4294967295) / 18446744073709551616 = 1 := by omega
      rw [e1, e2] at hadd
      clear e1 e2
      have HU : Hid (U64 (d - h / 4294967296 + h % 4294967296 * 4294967295 - 18446744073709551616 + 4294967295)) := Lib.hid ⟨by omega, by omega⟩
      have HR : Hid (redS 18446744069414584321 (d - h / 4294967296 + h % 4294967296 * 4294967295 - 18446744073709551616 + 4294967295) = redS P0 (h * 18446744073709551616 + d)) := Lib.hid (HF.out _ _ (.inl rfl) (.inr (by omega)))
      go_enter Try.func92, Try.ntmps92
      go_wp2_with (go_at_call 45; refine (reduce_calls _ _ _ HP.out HU.out).mono ?_; rintro e w' ⟨rfl, rfl⟩)
      go_ret
      exact ⟨by rw [← HR.out]; rfl, rfl⟩
    · have e1 : (d - h / 4294967296 + h % 4294967296 * 4294967295) % 18446744073709551616 = d - h / 4294967296 + h % 4294967296 * 4294967295 := by omega
      have e2 : (d - h / 4294967296 + h % 4294967296 * 4294967295) / 18446744073709551616 = 0 := by omega
      rw [e1, e2] at hadd
      clear e1 e2
      have HU : Hid (U64 (d - h / 4294967296 + h % 4294967296 * 4294967295)) := Lib.hid ⟨by omega, by omega⟩
      have HR : Hid (redS 18446744069414584321 (d - h / 4294967296 + h % 4294967296 * 4294967295) = redS P0 (h * 18446744073709551616 + d)) := Lib.hid (HF.out _ _ (.inl rfl) (.inl (by omega)))
      go_enter Try.func92, Try.ntmps92
      go_wp2_with (go_at_call 45; refine (reduce_calls _ _ _ HP.out HU.out).mono ?_; rintro e w' ⟨rfl, rfl⟩)
      go_ret
      exact ⟨by rw [← HR.out]; rfl, rfl⟩
end Go.Proofs.Ytkofhmiakfmcaaa.P
