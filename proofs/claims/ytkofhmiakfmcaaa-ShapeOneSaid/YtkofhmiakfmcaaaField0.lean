/- The contracts of package field's functions: each call comes to what redS, addS, .. tell. Conditions: the words are words of 64 bits. -/
import Derived.Test.YtkofhmiakfmcaaaProg
import Derived.WalkKit
import Derived.KernelRfl
import Derived.Deep.QuietTactic
import Derived.BigQuiet
import Derived.Laws.Externs
import Derived.Lib.Hide
import Derived.Test.YtkofhmiakfmcaaaMem
import Derived.Test.YtkofhmiakfmcaaaLib0
namespace Go.Proofs.Ytkofhmiakfmcaaa.P
open Go.RowKit
set_option linter.unusedVariables false
set_option linter.unusedSimpArgs false

theorem known_calls (p : Int) (w : World) :
    Calls Try.prog 43 #[.int .u64 p] w fun e w' => e = .returned (.bool (knownS p)) ∧ w' = w := by
  by_cases h0 : p = 18446744069414584321
  · subst h0
    go_enter Try.func43, Try.ntmps43
    go_wp2
    go_ret
    exact ⟨rfl, rfl⟩
  · by_cases h1 : p = 998244353
    · subst h1
      go_enter Try.func43, Try.ntmps43
      go_wp2
      go_ret
      exact ⟨rfl, rfl⟩
    · have h0' : (p == 18446744069414584321) = false := by simpa using h0
      have h1' : (p == 998244353) = false := by simpa using h1
      have hk : knownS p = (p == 2013265921) := by simp [knownS, h0', h1']
      have HK := Lib.hid hk
      clear h0 h1 hk
      go_enter Try.func43, Try.ntmps43
      go_wp2
      · go_ret
        rename_i h2
        exact ⟨by rw [HK.out, h2]; rfl, rfl⟩
      · go_ret
        rename_i h2
        exact ⟨by rw [HK.out, h2]; rfl, rfl⟩

/-- The greatest prime, behind a name. -/
def P0 : Int := 18446744069414584321
theorem u64_rem {p a : Int} (hp : 0 < p) (ha : 0 ≤ a) : Int.tmod a p = a % p := Int.tmod_eq_emod_of_nonneg ha

theorem reduce_calls (p a : Int) (w : World) (hp : U64 p) (ha : U64 a) :
    Calls Try.prog 45 #[.int .u64 p, .int .u64 a] w fun e w' => e = .returned (.int .u64 (redS p a)) ∧ w' = w := by
  obtain ⟨hp0, hp1⟩ := hp
  obtain ⟨ha0, ha1⟩ := ha
  by_cases hk : knownS p = true
  · by_cases h0 : p = 18446744069414584321
    · subst h0
      by_cases hc : (18446744069414584321 : Int) ≤ a
      · have HR : Hid (redS 18446744069414584321 a = a - 18446744069414584321) := Lib.hid (by rw [redS_known hk]; omega)
        go_enter Try.func45, Try.ntmps45
        go_wp2_with (go_at_call 43; refine (known_calls _ _).mono ?_; rintro e w' ⟨rfl, rfl⟩)
        go_ret
        exact ⟨by rw [HR.out]; rfl, rfl⟩
      · have HR : Hid (redS 18446744069414584321 a = a) := Lib.hid (by rw [redS_known hk]; omega)
        go_enter Try.func45, Try.ntmps45
        go_wp2_with (go_at_call 43; refine (known_calls _ _).mono ?_; rintro e w' ⟨rfl, rfl⟩)
        go_ret
        exact ⟨by rw [HR.out]; rfl, rfl⟩
    · have HR : Hid (redS p a = a % p) := Lib.hid (redS_known hk)
      have h0' : (p == 18446744069414584321) = false := by simpa using h0
      have hpp := (known_pos hk).1
      clear h0
      go_enter Try.func45, Try.ntmps45
      go_wp2_with (go_at_call 43; refine (known_calls _ _).mono ?_; rintro e w' ⟨rfl, rfl⟩)
      go_ret
      exact ⟨by rw [HR.out]; rfl, rfl⟩
  · have HR : Hid (redS p a = 0) := Lib.hid (redS_not hk)
    have hk' : knownS p = false := by simpa using hk
    clear hk
    go_enter Try.func45, Try.ntmps45
    go_wp2_with (go_at_call 43; refine (known_calls _ _).mono ?_; rintro e w' ⟨rfl, rfl⟩)
    go_ret
    exact ⟨by rw [HR.out]; rfl, rfl⟩

/-- math/bits.Add64 and Sub64: the model stands in for both. -/
theorem run_add (x y : Int) (hx : U64 x) (hy : U64 y) (w : World) :
    (callFunc 95 #[.int .u64 x, .int .u64 y, .int .u64 0]).run Try.prog w =
      .ok (.value (.tuple #[.int .u64 ((x + y) % 18446744073709551616), .int .u64 ((x + y) / 18446744073709551616)])) w := by
  rw [run_callFunc_extern Try.func95 (by kernel_rfl) (by kernel_rfl) (by kernel_rfl) (e := add64Entry) (by kernel_rfl), run_add64 x y 0 hx.1 hy.1 (by omega) (by omega)]
  simp only [Result.andThen, Int.add_zero]
def sub64Entry : Array Value → Sem Value := fun args => do
  let (x, y, b) ← Extern.MathBitsCarry.three "Sub64" args
  pure (Extern.MathBitsCarry.pair ((x + Extern.MathBitsCarry.m64 - y - b) % Extern.MathBitsCarry.m64) (if x < y + b then 1 else 0))
theorem run_sub (x y : Int) (hx : U64 x) (hy : U64 y) (w : World) :
    (callFunc 96 #[.int .u64 x, .int .u64 y, .int .u64 0]).run Try.prog w =
      .ok (.value (.tuple #[.int .u64 ((x - y) % 18446744073709551616), .int .u64 (if x < y then 1 else 0)])) w := by
  rw [run_callFunc_extern Try.func96 (by kernel_rfl) (by kernel_rfl) (by kernel_rfl) (e := sub64Entry) (by kernel_rfl)]
  obtain ⟨X, rfl⟩ := Int.eq_ofNat_of_zero_le hx.1
  obtain ⟨Y, rfl⟩ := Int.eq_ofNat_of_zero_le hy.1
  have e : (sub64Entry #[.int .u64 X, .int .u64 Y, .int .u64 0]).run Try.prog w = .ok (.tuple #[.int .u64 (((X + 18446744073709551616 - Y - 0) % 18446744073709551616 : Nat) : Int), .int .u64 ((if X < Y + 0 then 1 else 0 : Nat) : Int)]) w := rfl
  rw [e]
  have h1 := hx.2; have h2 := hy.2
  simp only [Result.andThen]
  congr 5
  · congr 1; omega
  · by_cases h : X < Y
    · have : (X : Int) < Y := by omega
      simp [h]
    · have : ¬ (X : Int) < Y := by omega
      simp [h]
end Go.Proofs.Ytkofhmiakfmcaaa.P
