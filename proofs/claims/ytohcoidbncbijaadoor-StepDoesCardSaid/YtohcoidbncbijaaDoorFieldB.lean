/- Several texts as one: Field0, Field1, Field2, Field3, Field4, Field5, Pow1, QuietB, Root0, Root1, Ord, Root2. Conditions: those of each lemma. -/
import Derived.Test.YtohcoidbncbijaaDoorProg
import Derived.WalkKit
import Derived.KernelRfl
import Derived.Deep.QuietTactic
import Derived.BigQuiet
import Derived.Laws.Externs
import Derived.Lib.Hide
import Derived.Test.YtohcoidbncbijaaDoorBaseB
import Derived.Test.YtohcoidbncbijaaDoorShelf
import Derived.Laws.BitsLemmas
import Derived.LoopTactic
import Derived.LoopN
import Derived.WalkMore
/- The contracts of package field's functions: each call comes to what redS, addS, .. tell. Conditions: the words are words of 64 bits. -/
namespace Go.Proofs.YtohcoidbncbijaaDoor.P
open Go.RowKit
set_option linter.unusedVariables false
set_option linter.unusedSimpArgs false

theorem known_calls (p : Int) (w : World) :
    Calls Tryd.prog 58 #[.int .u64 p] w fun e w' => e = .returned (.bool (knownS p)) ∧ w' = w := by
  by_cases h0 : p = 18446744069414584321
  · subst h0
    go_enter Tryd.func58, Tryd.ntmps58
    go_wp2
    go_ret
    exact ⟨rfl, rfl⟩
  · by_cases h1 : p = 998244353
    · subst h1
      go_enter Tryd.func58, Tryd.ntmps58
      go_wp2
      go_ret
      exact ⟨rfl, rfl⟩
    · have h0' : (p == 18446744069414584321) = false := by simpa using h0
      have h1' : (p == 998244353) = false := by simpa using h1
      have hk : knownS p = (p == 2013265921) := by simp [knownS, h0', h1']
      have HK := Lib.hid hk
      clear h0 h1 hk
      go_enter Tryd.func58, Tryd.ntmps58
      go_wp2
      · go_ret
        rename_i h2
        exact ⟨by rw [HK.out, h2]; rfl, rfl⟩
      · go_ret
        rename_i h2
        exact ⟨by rw [HK.out, h2]; rfl, rfl⟩

/-- The greatest prime, behind a name. -/
def P0 : Int := 18446744069414584321
theorem u64_rem {p a : Int} (hp : 0 < p) (ha : 0 ≤ a) : Int.tmod a p = a % p := Int.tmod_eq_emod_of_nonneg ha

theorem reduce_calls (p a : Int) (w : World) (hp : U64 p) (ha : U64 a) :
    Calls Tryd.prog 80 #[.int .u64 p, .int .u64 a] w fun e w' => e = .returned (.int .u64 (redS p a)) ∧ w' = w := by
  obtain ⟨hp0, hp1⟩ := hp
  obtain ⟨ha0, ha1⟩ := ha
  by_cases hk : knownS p = true
  · by_cases h0 : p = 18446744069414584321
    · subst h0
      by_cases hc : (18446744069414584321 : Int) ≤ a
      · have HR : Hid (redS 18446744069414584321 a = a - 18446744069414584321) := Lib.hid (by rw [redS_known hk]; omega)
        go_enter Tryd.func80, Tryd.ntmps80
        go_wp2_with (go_at_call 58; refine (known_calls _ _).mono ?_; rintro e w' ⟨rfl, rfl⟩)
        go_ret
        exact ⟨by rw [HR.out]; rfl, rfl⟩
      · have HR : Hid (redS 18446744069414584321 a = a) := Lib.hid (by rw [redS_known hk]; omega)
        go_enter Tryd.func80, Tryd.ntmps80
        go_wp2_with (go_at_call 58; refine (known_calls _ _).mono ?_; rintro e w' ⟨rfl, rfl⟩)
        go_ret
        exact ⟨by rw [HR.out]; rfl, rfl⟩
    · have HR : Hid (redS p a = a % p) := Lib.hid (redS_known hk)
      have h0' : (p == 18446744069414584321) = false := by simpa using h0
      have hpp := (known_pos hk).1
      clear h0
      go_enter Tryd.func80, Tryd.ntmps80
      go_wp2_with (go_at_call 58; refine (known_calls _ _).mono ?_; rintro e w' ⟨rfl, rfl⟩)
      go_ret
      exact ⟨by rw [HR.out]; rfl, rfl⟩
  · have HR : Hid (redS p a = 0) := Lib.hid (redS_not hk)
    have hk' : knownS p = false := by simpa using hk
    clear hk
    go_enter Tryd.func80, Tryd.ntmps80
    go_wp2_with (go_at_call 58; refine (known_calls _ _).mono ?_; rintro e w' ⟨rfl, rfl⟩)
    go_ret
    exact ⟨by rw [HR.out]; rfl, rfl⟩

/-- math/bits.Add64 and Sub64: the model stands in for both. -/
theorem run_add (x y : Int) (hx : U64 x) (hy : U64 y) (w : World) :
    (callFunc 79 #[.int .u64 x, .int .u64 y, .int .u64 0]).run Tryd.prog w =
      .ok (.value (.tuple #[.int .u64 ((x + y) % 18446744073709551616), .int .u64 ((x + y) / 18446744073709551616)])) w := by
  rw [run_callFunc_extern Tryd.func79 (by kernel_rfl) (by kernel_rfl) (by kernel_rfl) (e := add64Entry) (by kernel_rfl), run_add64 x y 0 hx.1 hy.1 (by omega) (by omega)]
  simp only [Result.andThen, Int.add_zero]
def sub64Entry : Array Value → Sem Value := fun args => do
  let (x, y, b) ← Extern.MathBitsCarry.three "Sub64" args
  pure (Extern.MathBitsCarry.pair ((x + Extern.MathBitsCarry.m64 - y - b) % Extern.MathBitsCarry.m64) (if x < y + b then 1 else 0))
theorem run_sub (x y : Int) (hx : U64 x) (hy : U64 y) (w : World) :
    (callFunc 120 #[.int .u64 x, .int .u64 y, .int .u64 0]).run Tryd.prog w =
      .ok (.value (.tuple #[.int .u64 ((x - y) % 18446744073709551616), .int .u64 (if x < y then 1 else 0)])) w := by
  rw [run_callFunc_extern Tryd.func120 (by kernel_rfl) (by kernel_rfl) (by kernel_rfl) (e := sub64Entry) (by kernel_rfl)]
  obtain ⟨X, rfl⟩ := Int.eq_ofNat_of_zero_le hx.1
  obtain ⟨Y, rfl⟩ := Int.eq_ofNat_of_zero_le hy.1
  have e : (sub64Entry #[.int .u64 X, .int .u64 Y, .int .u64 0]).run Tryd.prog w = .ok (.tuple #[.int .u64 (((X + 18446744073709551616 - Y - 0) % 18446744073709551616 : Nat) : Int), .int .u64 ((if X < Y + 0 then 1 else 0 : Nat) : Int)]) w := rfl
  rw [e]
  have h1 := hx.2; have h2 := hy.2
  simp only [Result.andThen]
  congr 5
  · congr 1; omega
  · by_cases h : X < Y
    · have : (X : Int) < Y := by omega
      simp [h]
    · have : ¬ (X : Int) < Y := by omega
      simp [h]
end Go.Proofs.YtohcoidbncbijaaDoor.P
/- The contracts of package field's sums: Add, Sub, Neg, In come to addS, subS, negS, inS. Conditions: the words are words of 64 bits. -/
namespace Go.Proofs.YtohcoidbncbijaaDoor.P
open Go.RowKit
set_option linter.unusedVariables false
set_option linter.unusedSimpArgs false

theorem add_calls (p a b : Int) (w : World) (hp : U64 p) (ha : U64 a) (hb : U64 b) :
    Calls Tryd.prog 40 #[.int .u64 p, .int .u64 a, .int .u64 b] w fun e w' => e = .returned (.int .u64 (addS p a b)) ∧ w' = w := by
  by_cases hk : knownS p = true
  · have hx0 := redS_lo p a
    have hx1 := redS_hi a hk
    have hy0 := redS_lo p b
    have hy1 := redS_hi b hk
    have HS : Hid (addS p a b = if p ≤ redS p a + redS p b then redS p a + redS p b - p else redS p a + redS p b) := Lib.hid (by
      unfold addS
      rw [← redS_add_left, ← redS_add_right]
      split
      · rw [redS_known hk, ← Int.sub_emod_right]; exact Int.emod_eq_of_lt (by omega) (by omega)
      · exact redS_small hk (by omega) (by omega))
    have hadd := run_add (redS p a) (redS p b) (u64_redS _ _) (u64_redS _ _)
    obtain ⟨hp0, hp1⟩ := hp
    have HA := Lib.hid ha
    have HB := Lib.hid hb
    have HP : Hid (U64 p) := Lib.hid ⟨hp0, hp1⟩
    clear ha hb
    by_cases h1 : 18446744073709551616 ≤ redS p a + redS p b
    · have e1 : (redS p a + redS p b) % 18446744073709551616 = redS p a + redS p b - 18446744073709551616 := by omega
      have e2 : (redS p a + redS p b) / 18446744073709551616 = 1 := by omega
      rw [e1, e2] at hadd
      have HC : Hid (addS p a b = redS p a + redS p b - p) := Lib.hid (by rw [HS.out, if_pos (by omega)])
      have HW : Hid (IntKind.u64.wrap (redS p a + redS p b - 18446744073709551616 - p) = redS p a + redS p b - p) := Lib.hid (by
        simp only [IntKind.wrap, IntKind.signed, IntKind.bits]; simp; omega)
      clear e1 e2 HS
      go_enter Tryd.func40, Tryd.ntmps40
      go_wp2_with (first
        | (go_at_call 58; refine (known_calls _ _).mono ?_; rintro e w' ⟨rfl, rfl⟩)
        | (go_at_call 80; refine (reduce_calls _ _ _ HP.out (by first | exact HA.out | exact HB.out)).mono ?_; rintro e w' ⟨rfl, rfl⟩))
      go_ret
      exact ⟨by first | (rw [HC.out]; done) | (rw [HC.out, ← HW.out]; rfl), rfl⟩
    · have e1 : (redS p a + redS p b) % 18446744073709551616 = redS p a + redS p b := by omega
      have e2 : (redS p a + redS p b) / 18446744073709551616 = 0 := by omega
      rw [e1, e2] at hadd
      clear e1 e2
      by_cases h2 : p ≤ redS p a + redS p b
      · have HC : Hid (addS p a b = redS p a + redS p b - p) := Lib.hid (by rw [HS.out, if_pos (by omega)])
        clear HS
        go_enter Tryd.func40, Tryd.ntmps40
        go_wp2_with (first
          | (go_at_call 58; refine (known_calls _ _).mono ?_; rintro e w' ⟨rfl, rfl⟩)
          | (go_at_call 80; refine (reduce_calls _ _ _ HP.out (by first | exact HA.out | exact HB.out)).mono ?_; rintro e w' ⟨rfl, rfl⟩))
        go_ret
        exact ⟨by rw [HC.out]; rfl, rfl⟩
      · have HC : Hid (addS p a b = redS p a + redS p b) := Lib.hid (by rw [HS.out, if_neg (by omega)])
        clear HS
        go_enter Tryd.func40, Tryd.ntmps40
        go_wp2_with (first
          | (go_at_call 58; refine (known_calls _ _).mono ?_; rintro e w' ⟨rfl, rfl⟩)
          | (go_at_call 80; refine (reduce_calls _ _ _ HP.out (by first | exact HA.out | exact HB.out)).mono ?_; rintro e w' ⟨rfl, rfl⟩))
        go_ret
        exact ⟨by rw [HC.out]; rfl, rfl⟩
  · have HR : Hid (addS p a b = 0) := Lib.hid (redS_not hk)
    have hk' : knownS p = false := by simpa using hk
    clear hk
    go_enter Tryd.func40, Tryd.ntmps40
    go_wp2_with (go_at_call 58; refine (known_calls _ _).mono ?_; rintro e w' ⟨rfl, rfl⟩)
    go_ret
    exact ⟨by rw [HR.out]; rfl, rfl⟩
end Go.Proofs.YtohcoidbncbijaaDoor.P
/- The contracts of package field's products: gold, Rem64, Mul come to mulS. Conditions: the words are words of 64 bits. -/
namespace Go.Proofs.YtohcoidbncbijaaDoor.P
open Go.RowKit
set_option linter.unusedVariables false
set_option linter.unusedSimpArgs false

theorem wrap_u64 (n : Int) : IntKind.u64.wrap n = n % 18446744073709551616 := by simp [IntKind.wrap, IntKind.bits, IntKind.signed]
theorem wraps_u64 (n : Int) (h₀ : 0 ≤ n) (h₁ : n < 2 ^ 64) : IntKind.u64.wrap n = n := by rw [wrap_u64]; omega
theorem and_low {x : Int} (hx : U64 x) : Go.bits .and .u64 x 4294967295 = x % 4294967296 :=
  bits_mask .u64 64 (by decide) wraps_u64 32 (by decide) x hx.1 hx.2

theorem gold_fact (h d L S : Int) (hh : U64 h) (hL : L = d - h / 4294967296 ∨ L = d - h / 4294967296 + 18446744069414584321)
    (hS : S = L + h % 4294967296 * 4294967295 ∨ S = L + h % 4294967296 * 4294967295 - 18446744069414584321) :
    redS 18446744069414584321 S = redS P0 (h * 18446744073709551616 + d) := by
  have hk : knownS 18446744069414584321 = true := rfl
  unfold P0
  rw [redS_eq_iff hk]
  obtain ⟨h0, h1⟩ := hh
  have e : h = h / 4294967296 * 4294967296 + h % 4294967296 := by omega
  generalize h / 4294967296 = t at *
  generalize h % 4294967296 = m at *
  subst e
  rcases hL with rfl | rfl <;> rcases hS with rfl | rfl
  · exact ⟨-(t * 4294967297 + m), by omega⟩
  · exact ⟨-(t * 4294967297 + m) - 1, by omega⟩
  · exact ⟨-(t * 4294967297 + m) + 1, by omega⟩
  · exact ⟨-(t * 4294967297 + m), by omega⟩

theorem gold_calls (h d : Int) (w : World) (hh : U64 h) (hd : U64 d) :
    Calls Tryd.prog 82 #[.int .u64 h, .int .u64 d] w fun e w' => e = .returned (.int .u64 (redS P0 (h * 18446744073709551616 + d))) ∧ w' = w := by
  have hand := and_low hh
  have HF := Lib.hid (fun L S => gold_fact h d L S hh)
  have hut : U64 (h / 4294967296) := by obtain ⟨a, b⟩ := hh; exact ⟨by omega, by omega⟩
  have hsub := run_sub d (h / 4294967296) hd hut
  obtain ⟨h0, h1⟩ := hh
  obtain ⟨d0, d1⟩ := hd
  have HP : Hid (U64 18446744069414584321) := Lib.hid ⟨by omega, by omega⟩
  clear hut
  by_cases hb : d < h / 4294967296
  · have e1 : (d - h / 4294967296) % 18446744073709551616 = d - h / 4294967296 + 18446744073709551616 := by omega
    rw [e1, if_pos hb] at hsub
    clear e1
    have hadd := run_add (d - h / 4294967296 + 18446744073709551616 - 4294967295) (h % 4294967296 * 4294967295) ⟨by omega, by omega⟩ ⟨by omega, by omega⟩
    by_cases hc : 18446744073709551616 ≤ d - h / 4294967296 + 18446744073709551616 - 4294967295 + h % 4294967296 * 4294967295
    · have e1 : (d - h / 4294967296 + 18446744073709551616 - 4294967295 + h % 4294967296 * 4294967295) % 18446744073709551616 = d - h / 4294967296 + 18446744073709551616 - 4294967295 + h % 4294967296 * 4294967295 - 18446744073709551616 := by omega
      have e2 : (d - h / 4294967296 + 18446744073709551616 - 4294967295 + h % 4294967296 * 4294967295) / 18446744073709551616 = 1 := by omega
      rw [e1, e2] at hadd
      clear e1 e2
      have HU : Hid (U64 (d - h / 4294967296 + 18446744073709551616 - 4294967295 + h % 4294967296 * 4294967295 - 18446744073709551616 + 4294967295)) := Lib.hid ⟨by omega, by omega⟩
      have HR : Hid (redS 18446744069414584321 (d - h / 4294967296 + 18446744073709551616 - 4294967295 + h % 4294967296 * 4294967295 - 18446744073709551616 + 4294967295) = redS P0 (h * 18446744073709551616 + d)) := Lib.hid (HF.out _ _ (.inr rfl) (.inr (by omega)))
      go_enter Tryd.func82, Tryd.ntmps82
      go_wp2_with (go_at_call 80; refine (reduce_calls _ _ _ HP.out HU.out).mono ?_; rintro e w' ⟨rfl, rfl⟩)
      go_ret
      exact ⟨by rw [← HR.out]; rfl, rfl⟩
    · have e1 : (d - h / 4294967296 + 18446744073709551616 - 4294967295 + h % 4294967296 * 4294967295) % 18446744073709551616 = d - h / 4294967296 + 18446744073709551616 - 4294967295 + h % 4294967296 * 4294967295 := by omega
      have e2 : (d - h / 4294967296 + 18446744073709551616 - 4294967295 + h % 4294967296 * 4294967295) / 18446744073709551616 = 0 := by omega
      rw [e1, e2] at hadd
      clear e1 e2
      have HU : Hid (U64 (d - h / 4294967296 + 18446744073709551616 - 4294967295 + h % 4294967296 * 4294967295)) := Lib.hid ⟨by omega, by omega⟩
      have HR : Hid (redS 18446744069414584321 (d - h / 4294967296 + 18446744073709551616 - 4294967295 + h % 4294967296 * 4294967295) = redS P0 (h * 18446744073709551616 + d)) := Lib.hid (HF.out _ _ (.inr rfl) (.inl (by omega)))
      go_enter Tryd.func82, Tryd.ntmps82
      go_wp2_with (go_at_call 80; refine (reduce_calls _ _ _ HP.out HU.out).mono ?_; rintro e w' ⟨rfl, rfl⟩)
      go_ret
      exact ⟨by rw [← HR.out]; rfl, rfl⟩
  · have e1 : (d - h / 4294967296) % 18446744073709551616 = d - h / 4294967296 := by omega
    rw [e1, if_neg hb] at hsub
    clear e1
    have hadd := run_add (d - h / 4294967296) (h % 4294967296 * 4294967295) ⟨by omega, by omega⟩ ⟨by omega, by omega⟩
    by_cases hc : 18446744073709551616 ≤ d - h / 4294967296 + h % 4294967296 * 4294967295
    · have e1 : (d - h / 4294967296 + h % 4294967296 * 4294967295) % 18446744073709551616 = d - h / 4294967296 + h % 4294967296 * 4294967295 - 18446744073709551616 := by omega
      have e2 : (d - h / 4294967296 + h % 4294967296 * 4294967295) / 18446744073709551616 = 1 := by omega
      rw [e1, e2] at hadd
      clear e1 e2
      have HU : Hid (U64 (d - h / 4294967296 + h % 4294967296 * 4294967295 - 18446744073709551616 + 4294967295)) := Lib.hid ⟨by omega, by omega⟩
      have HR : Hid (redS 18446744069414584321 (d - h / 4294967296 + h % 4294967296 * 4294967295 - 18446744073709551616 + 4294967295) = redS P0 (h * 18446744073709551616 + d)) := Lib.hid (HF.out _ _ (.inl rfl) (.inr (by omega)))
      go_enter Tryd.func82, Tryd.ntmps82
      go_wp2_with (go_at_call 80; refine (reduce_calls _ _ _ HP.out HU.out).mono ?_; rintro e w' ⟨rfl, rfl⟩)
      go_ret
      exact ⟨by rw [← HR.out]; rfl, rfl⟩
    · have e1 : (d - h / 4294967296 + h % 4294967296 * 4294967295) % 18446744073709551616 = d - h / 4294967296 + h % 4294967296 * 4294967295 := by omega
      have e2 : (d - h / 4294967296 + h % 4294967296 * 4294967295) / 18446744073709551616 = 0 := by omega
      rw [e1, e2] at hadd
      clear e1 e2
      have HU : Hid (U64 (d - h / 4294967296 + h % 4294967296 * 4294967295)) := Lib.hid ⟨by omega, by omega⟩
      have HR : Hid (redS 18446744069414584321 (d - h / 4294967296 + h % 4294967296 * 4294967295) = redS P0 (h * 18446744073709551616 + d)) := Lib.hid (HF.out _ _ (.inl rfl) (.inl (by omega)))
      go_enter Tryd.func82, Tryd.ntmps82
      go_wp2_with (go_at_call 80; refine (reduce_calls _ _ _ HP.out HU.out).mono ?_; rintro e w' ⟨rfl, rfl⟩)
      go_ret
      exact ⟨by rw [← HR.out]; rfl, rfl⟩
end Go.Proofs.YtohcoidbncbijaaDoor.P
/- The contracts of math/bits.Div64 and Rem64 at the two primes below 2^32, and of package field's Mul, Sub, Neg. Conditions: the words are words of 64 bits. -/
namespace Go.Proofs.YtohcoidbncbijaaDoor.P
open Go.RowKit
set_option linter.unusedVariables false
set_option linter.unusedSimpArgs false

theorem or_join {x y : Int} (i : Nat) (hx0 : 0 ≤ x) (hx : x % 2 ^ i = 0) (hx1 : x < 18446744073709551616) (h0 : 0 ≤ y) (h1 : y < 2 ^ i) (h2 : y < 18446744073709551616) : Go.bits .or .u64 x y = x + y :=
  bits_join .u64 64 (by decide) wraps_u64 i x y hx0 hx hx1 h0 h1 h2
theorem lz_P1 (w : World) : Calls Tryd.prog 148 #[.int .u64 998244353] w fun e w' => e = .returned (.int .i64 34) ∧ w' = w :=
  (Tryd.bits_LeadingZeros64 998244353 w (by decide) (by decide)).mono fun e w' ⟨he, hw⟩ => ⟨he.trans (by rw [show Lib.bitLen (998244353 : Int).toNat = 30 from by decide +kernel]; rfl), hw⟩
theorem lz_P2 (w : World) : Calls Tryd.prog 148 #[.int .u64 2013265921] w fun e w' => e = .returned (.int .i64 33) ∧ w' = w :=
  (Tryd.bits_LeadingZeros64 2013265921 w (by decide) (by decide)).mono fun e w' ⟨he, hw⟩ => ⟨he.trans (by rw [show Lib.bitLen (2013265921 : Int).toNat = 31 from by decide +kernel]; rfl), hw⟩

theorem div_P1 (x d : Int) (w : World) (hx0 : 0 < x) (hx : x < 998244353) (hd : U64 d) :
    Calls Tryd.prog 121 #[.int .u64 x, .int .u64 d, .int .u64 998244353] w fun e w' => (∃ q : Int, e = .returned (.tuple #[.int .u64 q, .int .u64 ((x * 18446744073709551616 + d) % 998244353)])) ∧ w' = w := by
  obtain ⟨d0, d1⟩ := hd
  have hor : Go.bits .or .u64 (x * 17179869184) (d / 1073741824) = x * 17179869184 + d / 1073741824 := or_join 34 (by omega) (by omega) (by omega) (by omega) (by omega) (by omega)
  have hw1 : IntKind.u64.wrap (d * 17179869184) = d % 1073741824 * 17179869184 := by rw [wrap_u64]; omega
  have hw2 : Go.bits .and .u64 (d % 1073741824 * 17179869184) 4294967295 = 0 := by rw [and_low ⟨by omega, by omega⟩]; omega
  have hw3 : Go.bits .and .u64 (17149707398206717952) 4294967295 = 0 := by rw [and_low ⟨by omega, by omega⟩]; rfl
  go_enter Tryd.func121, Tryd.ntmps121
  go_wp2_with (go_at_call 148; refine (lz_P1 _).mono ?_; rintro e w' ⟨rfl, rfl⟩)
  generalize hU : x * 17179869184 + d / 1073741824 = U at *
  generalize hv : d % 1073741824 = v at *
  have hU0 : 0 ≤ U := by omega
  have hU1 : U < 17149707398206717952 := by omega
  have hv0 : 0 ≤ v := by omega
  have hv1 : v < 1073741824 := by omega
  have HU := Lib.hid hU
  have HV := Lib.hid hv
  clear hU hv hor hw1
  have hW : IntKind.u64.wrap (IntKind.u64.wrap (IntKind.u64.wrap (U * 4294967296) + v * 17179869184 / 4294967296) - IntKind.u64.wrap (U / 3992977412 * 17149707398206717952)) = (U - U / 3992977412 * 3992977412) * 4294967296 + v * 17179869184 / 4294967296 := by
    simp only [wrap_u64]; omega
  have HW := Lib.hid hW
  clear hW
  refine wp_loop_once ?_
  have hW := HW.out
  go_wp2
  clear hW HW
  generalize hT : (U - U / 3992977412 * 3992977412) * 4294967296 + v * 17179869184 / 4294967296 = T at *
  have hT0 : 0 ≤ T := by omega
  have hT1 : T < 17149707398206717952 := by omega
  have HF : Hid (IntKind.u64.wrap (IntKind.u64.wrap (IntKind.u64.wrap (T * 4294967296)) - IntKind.u64.wrap (T / 3992977412 * 17149707398206717952)) / 17179869184 = (x * 18446744073709551616 + d) % 998244353) := Lib.hid (by
    have e1 : IntKind.u64.wrap (IntKind.u64.wrap (IntKind.u64.wrap (T * 4294967296)) - IntKind.u64.wrap (T / 3992977412 * 17149707398206717952)) = (T - T / 3992977412 * 3992977412) * 4294967296 := by simp only [wrap_u64]; omega
    have e2 : x * 18446744073709551616 + d = U * 1073741824 + v := by have := HU.out; have := HV.out; omega
    rw [e1, e2]; omega)
  clear hT
  refine wp_loop_once ?_
  go_wp2
  go_ret2
  exact ⟨⟨_, by rw [← HF.out]; rfl⟩, rfl⟩

theorem div_P2 (x d : Int) (w : World) (hx0 : 0 < x) (hx : x < 2013265921) (hd : U64 d) :
    Calls Tryd.prog 121 #[.int .u64 x, .int .u64 d, .int .u64 2013265921] w fun e w' => (∃ q : Int, e = .returned (.tuple #[.int .u64 q, .int .u64 ((x * 18446744073709551616 + d) % 2013265921)])) ∧ w' = w := by
  obtain ⟨d0, d1⟩ := hd
  have hor : Go.bits .or .u64 (x * 8589934592) (d / 2147483648) = x * 8589934592 + d / 2147483648 := or_join 33 (by omega) (by omega) (by omega) (by omega) (by omega) (by omega)
  have hw1 : IntKind.u64.wrap (d * 8589934592) = d % 2147483648 * 8589934592 := by rw [wrap_u64]; omega
  have hw2 : Go.bits .and .u64 (d % 2147483648 * 8589934592) 4294967295 = 0 := by rw [and_low ⟨by omega, by omega⟩]; omega
  have hw3 : Go.bits .and .u64 (17293822577692639232) 4294967295 = 0 := by rw [and_low ⟨by omega, by omega⟩]; rfl
  go_enter Tryd.func121, Tryd.ntmps121
  go_wp2_with (go_at_call 148; refine (lz_P2 _).mono ?_; rintro e w' ⟨rfl, rfl⟩)
  generalize hU : x * 8589934592 + d / 2147483648 = U at *
  generalize hv : d % 2147483648 = v at *
  have hU0 : 0 ≤ U := by omega
  have hU1 : U < 17293822577692639232 := by omega
  have hv0 : 0 ≤ v := by omega
  have hv1 : v < 2147483648 := by omega
  have HU := Lib.hid hU
  have HV := Lib.hid hv
  clear hU hv hor hw1
  have hW : IntKind.u64.wrap (IntKind.u64.wrap (IntKind.u64.wrap (U * 4294967296) + v * 8589934592 / 4294967296) - IntKind.u64.wrap (U / 4026531842 * 17293822577692639232)) = (U - U / 4026531842 * 4026531842) * 4294967296 + v * 8589934592 / 4294967296 := by
    simp only [wrap_u64]; omega
  have HW := Lib.hid hW
  clear hW
  refine wp_loop_once ?_
  have hW := HW.out
  go_wp2
  clear hW HW
  generalize hT : (U - U / 4026531842 * 4026531842) * 4294967296 + v * 8589934592 / 4294967296 = T at *
  have hT0 : 0 ≤ T := by omega
  have hT1 : T < 17293822577692639232 := by omega
  have HF : Hid (IntKind.u64.wrap (IntKind.u64.wrap (IntKind.u64.wrap (T * 4294967296)) - IntKind.u64.wrap (T / 4026531842 * 17293822577692639232)) / 8589934592 = (x * 18446744073709551616 + d) % 2013265921) := Lib.hid (by
    have e1 : IntKind.u64.wrap (IntKind.u64.wrap (IntKind.u64.wrap (T * 4294967296)) - IntKind.u64.wrap (T / 4026531842 * 17293822577692639232)) = (T - T / 4026531842 * 4026531842) * 4294967296 := by simp only [wrap_u64]; omega
    have e2 : x * 18446744073709551616 + d = U * 2147483648 + v := by have := HU.out; have := HV.out; omega
    rw [e1, e2]; omega)
  clear hT
  refine wp_loop_once ?_
  go_wp2
  go_ret2
  exact ⟨⟨_, by rw [← HF.out]; rfl⟩, rfl⟩

end Go.Proofs.YtohcoidbncbijaaDoor.P
/- The contracts of math/bits.Rem64 at the two primes below 2^32, and of package field's Mul, Sub, Neg, In. Conditions: the words are words of 64 bits. -/
namespace Go.Proofs.YtohcoidbncbijaaDoor.P
open Go.RowKit
set_option linter.unusedVariables false
set_option linter.unusedSimpArgs false

theorem div_zero (d y : Int) (w : World) (hy0 : 0 < y) (hy : y < 18446744073709551616) (hd : U64 d) :
    Calls Tryd.prog 121 #[.int .u64 0, .int .u64 d, .int .u64 y] w fun e w' => (∃ q : Int, e = .returned (.tuple #[.int .u64 q, .int .u64 (d % y)])) ∧ Drawn0 w w' := by
  obtain ⟨d0, d1⟩ := hd
  have hy1 : (y == 0) = false := by simp; omega
  go_enter Tryd.func121, Tryd.ntmps121
  go_wp2
  go_quiet (fail)
  go_wp2
  go_ret2
  exact ⟨⟨_, rfl⟩, ⟨_, rfl⟩⟩
theorem rem_P1 (h d : Int) (w : World) (hh : U64 h) (hd : U64 d) :
    Calls Tryd.prog 83 #[.int .u64 h, .int .u64 d, .int .u64 998244353] w fun e w' => e = .returned (.int .u64 ((h * 18446744073709551616 + d) % 998244353)) ∧ Drawn0 w w' := by
  have HD := Lib.hid hd
  obtain ⟨h0, h1⟩ := hh
  by_cases hz : h % 998244353 = 0
  · have HF : Hid ((h * 18446744073709551616 + d) % 998244353 = d % 998244353) := Lib.hid (by omega)
    go_enter Tryd.func83, Tryd.ntmps83
    go_wp2_with (go_at_call 121; refine (div_zero _ _ _ (by decide) (by decide) HD.out).mono ?_; rintro e w' ⟨⟨q, rfl⟩, ⟨n, rfl⟩⟩)
    go_ret
    exact ⟨by rw [HF.out]; rfl, ⟨_, rfl⟩⟩
  · have HF : Hid ((h * 18446744073709551616 + d) % 998244353 = (h % 998244353 * 18446744073709551616 + d) % 998244353) := Lib.hid (by omega)
    go_enter Tryd.func83, Tryd.ntmps83
    go_wp2_with (go_at_call 121; refine (div_P1 _ _ _ (by omega) (by omega) HD.out).mono ?_; rintro e w' ⟨⟨q, rfl⟩, rfl⟩)
    go_ret
    exact ⟨by rw [HF.out]; rfl, ⟨0, rfl⟩⟩
theorem rem_P2 (h d : Int) (w : World) (hh : U64 h) (hd : U64 d) :
    Calls Tryd.prog 83 #[.int .u64 h, .int .u64 d, .int .u64 2013265921] w fun e w' => e = .returned (.int .u64 ((h * 18446744073709551616 + d) % 2013265921)) ∧ Drawn0 w w' := by
  have HD := Lib.hid hd
  obtain ⟨h0, h1⟩ := hh
  by_cases hz : h % 2013265921 = 0
  · have HF : Hid ((h * 18446744073709551616 + d) % 2013265921 = d % 2013265921) := Lib.hid (by omega)
    go_enter Tryd.func83, Tryd.ntmps83
    go_wp2_with (go_at_call 121; refine (div_zero _ _ _ (by decide) (by decide) HD.out).mono ?_; rintro e w' ⟨⟨q, rfl⟩, ⟨n, rfl⟩⟩)
    go_ret
    exact ⟨by rw [HF.out]; rfl, ⟨_, rfl⟩⟩
  · have HF : Hid ((h * 18446744073709551616 + d) % 2013265921 = (h % 2013265921 * 18446744073709551616 + d) % 2013265921) := Lib.hid (by omega)
    go_enter Tryd.func83, Tryd.ntmps83
    go_wp2_with (go_at_call 121; refine (div_P2 _ _ _ (by omega) (by omega) HD.out).mono ?_; rintro e w' ⟨⟨q, rfl⟩, rfl⟩)
    go_ret
    exact ⟨by rw [HF.out]; rfl, ⟨0, rfl⟩⟩
theorem mul64_calls (x y : Int) (w : World) (hx : U64 x) (hy : U64 y) :
    Calls Tryd.prog 81 #[.int .u64 x, .int .u64 y] w fun e w' => (∃ h d : Int, e = .returned (.tuple #[.int .u64 h, .int .u64 d]) ∧ U64 h ∧ U64 d ∧ h * 18446744073709551616 + d = x * y) ∧ w' = w := by
  obtain ⟨x0, x1⟩ := hx
  obtain ⟨y0, y1⟩ := hy
  obtain ⟨X, rfl⟩ := Int.eq_ofNat_of_zero_le x0
  obtain ⟨Y, rfl⟩ := Int.eq_ofNat_of_zero_le y0
  have hX : X < 18446744073709551616 := by omega
  have hY : Y < 18446744073709551616 := by omega
  refine (Tryd.bits_Mul64 X Y hX hY w).mono fun e w' ⟨he, hw⟩ => ⟨⟨_, _, he, ?_, ?_, ?_⟩, hw⟩
  · refine ⟨by omega, ?_⟩
    have : X * Y < 18446744073709551616 * 18446744073709551616 := Nat.mul_lt_mul'' hX hY
    omega
  · exact ⟨by omega, by omega⟩
  · have := Nat.div_add_mod (X * Y) 18446744073709551616
    rw [← Int.natCast_mul]; omega
theorem mul_calls (p a b : Int) (w : World) (hp : U64 p) (ha : U64 a) (hb : U64 b) :
    Calls Tryd.prog 41 #[.int .u64 p, .int .u64 a, .int .u64 b] w fun e w' => e = .returned (.int .u64 (mulS p a b)) ∧ Drawn0 w w' := by
  by_cases hk : knownS p = true
  · have hux := u64_redS p a
    have huy := u64_redS p b
    have HS : Hid (mulS p a b = redS p (redS p a * redS p b)) := Lib.hid (by unfold mulS; rw [redS_mul_left, redS_mul_right])
    have HA := Lib.hid ha
    have HB := Lib.hid hb
    have HP := Lib.hid hp
    have HX := Lib.hid hux
    have HY := Lib.hid huy
    clear ha hb hp hux huy
    rcases knownS_cases hk with rfl | rfl | rfl
    · go_enter Tryd.func41, Tryd.ntmps41
      go_wp2_with (first
        | (go_at_call 58; refine (known_calls _ _).mono ?_; rintro e w' ⟨rfl, rfl⟩)
        | (go_at_call 80; refine (reduce_calls _ _ _ HP.out (by first | exact HA.out | exact HB.out)).mono ?_; rintro e w' ⟨rfl, rfl⟩)
        | (go_at_call 81; refine (mul64_calls _ _ _ HX.out HY.out).mono ?_; rintro e w' ⟨⟨h, d, rfl, uh, ud, he⟩, rfl⟩; have HE := Lib.hid he; have HH := Lib.hid uh; have HD := Lib.hid ud; clear he uh ud)
        | (go_at_call 82; refine (gold_calls _ _ _ HH.out HD.out).mono ?_; rintro e w' ⟨rfl, rfl⟩))
      go_ret
      exact ⟨by rw [HS.out, ← HE.out]; rfl, ⟨0, rfl⟩⟩
    · go_enter Tryd.func41, Tryd.ntmps41
      go_wp2_with (first
        | (go_at_call 58; refine (known_calls _ _).mono ?_; rintro e w' ⟨rfl, rfl⟩)
        | (go_at_call 80; refine (reduce_calls _ _ _ HP.out (by first | exact HA.out | exact HB.out)).mono ?_; rintro e w' ⟨rfl, rfl⟩)
        | (go_at_call 81; refine (mul64_calls _ _ _ HX.out HY.out).mono ?_; rintro e w' ⟨⟨h, d, rfl, uh, ud, he⟩, rfl⟩; have HE := Lib.hid he; have HH := Lib.hid uh; have HD := Lib.hid ud; clear he uh ud)
        | (go_at_call 83; refine (rem_P1 _ _ _ HH.out HD.out).mono ?_; rintro e w' ⟨rfl, ⟨n, rfl⟩⟩))
      go_ret
      exact ⟨by rw [HS.out, ← HE.out, redS_known hk]; rfl, ⟨_, rfl⟩⟩
    · go_enter Tryd.func41, Tryd.ntmps41
      go_wp2_with (first
        | (go_at_call 58; refine (known_calls _ _).mono ?_; rintro e w' ⟨rfl, rfl⟩)
        | (go_at_call 80; refine (reduce_calls _ _ _ HP.out (by first | exact HA.out | exact HB.out)).mono ?_; rintro e w' ⟨rfl, rfl⟩)
        | (go_at_call 81; refine (mul64_calls _ _ _ HX.out HY.out).mono ?_; rintro e w' ⟨⟨h, d, rfl, uh, ud, he⟩, rfl⟩; have HE := Lib.hid he; have HH := Lib.hid uh; have HD := Lib.hid ud; clear he uh ud)
        | (go_at_call 83; refine (rem_P2 _ _ _ HH.out HD.out).mono ?_; rintro e w' ⟨rfl, ⟨n, rfl⟩⟩))
      go_ret
      exact ⟨by rw [HS.out, ← HE.out, redS_known hk]; rfl, ⟨_, rfl⟩⟩
  · have HR : Hid (mulS p a b = 0) := Lib.hid (redS_not hk)
    have hk' : knownS p = false := by simpa using hk
    clear hk
    go_enter Tryd.func41, Tryd.ntmps41
    go_wp2_with (go_at_call 58; refine (known_calls _ _).mono ?_; rintro e w' ⟨rfl, rfl⟩)
    go_ret
    exact ⟨by rw [HR.out]; rfl, ⟨0, rfl⟩⟩
theorem sub_calls (p a b : Int) (w : World) (hp : U64 p) (ha : U64 a) (hb : U64 b) :
    Calls Tryd.prog 151 #[.int .u64 p, .int .u64 a, .int .u64 b] w fun e w' => e = .returned (.int .u64 (subS p a b)) ∧ w' = w := by
  by_cases hk : knownS p = true
  · have hx0 := redS_lo p a
    have hx1 := redS_hi a hk
    have hy0 := redS_lo p b
    have hy1 := redS_hi b hk
    have hsub := run_sub (redS p a) (redS p b) (u64_redS _ _) (u64_redS _ _)
    obtain ⟨hp0, hp1⟩ := hp
    have HA := Lib.hid ha
    have HB := Lib.hid hb
    have HP : Hid (U64 p) := Lib.hid ⟨hp0, hp1⟩
    clear ha hb
    by_cases h1 : redS p a < redS p b
    · have HC : Hid (subS p a b = redS p a - redS p b + p) := Lib.hid (by
        unfold subS
        rw [← redS_sub_left, ← redS_sub_right, redS_known hk, ← Int.add_emod_right]; exact Int.emod_eq_of_lt (by omega) (by omega))
      have HW : Hid (IntKind.u64.wrap (redS p a - redS p b + 18446744073709551616 + p) = redS p a - redS p b + p) := Lib.hid (by rw [wrap_u64]; omega)
      rw [if_pos h1, show (redS p a - redS p b) % 18446744073709551616 = redS p a - redS p b + 18446744073709551616 from by omega] at hsub
      go_enter Tryd.func151, Tryd.ntmps151
      go_wp2_with (first
        | (go_at_call 58; refine (known_calls _ _).mono ?_; rintro e w' ⟨rfl, rfl⟩)
        | (go_at_call 80; refine (reduce_calls _ _ _ HP.out (by first | exact HA.out | exact HB.out)).mono ?_; rintro e w' ⟨rfl, rfl⟩))
      go_ret
      exact ⟨by rw [HC.out, ← HW.out]; rfl, rfl⟩
    · have HC : Hid (subS p a b = redS p a - redS p b) := Lib.hid (by
        unfold subS
        rw [← redS_sub_left, ← redS_sub_right]; exact redS_small hk (by omega) (by omega))
      rw [if_neg h1, show (redS p a - redS p b) % 18446744073709551616 = redS p a - redS p b from by omega] at hsub
      go_enter Tryd.func151, Tryd.ntmps151
      go_wp2_with (first
        | (go_at_call 58; refine (known_calls _ _).mono ?_; rintro e w' ⟨rfl, rfl⟩)
        | (go_at_call 80; refine (reduce_calls _ _ _ HP.out (by first | exact HA.out | exact HB.out)).mono ?_; rintro e w' ⟨rfl, rfl⟩))
      go_ret
      exact ⟨by rw [HC.out]; rfl, rfl⟩
  · have HR : Hid (subS p a b = 0) := Lib.hid (redS_not hk)
    have hk' : knownS p = false := by simpa using hk
    clear hk
    go_enter Tryd.func151, Tryd.ntmps151
    go_wp2_with (go_at_call 58; refine (known_calls _ _).mono ?_; rintro e w' ⟨rfl, rfl⟩)
    go_ret
    exact ⟨by rw [HR.out]; rfl, rfl⟩
end Go.Proofs.YtohcoidbncbijaaDoor.P
/- The contract of package field's In. Conditions: the words are words of 64 bits; the slice reads as a list. -/
namespace Go.Proofs.YtohcoidbncbijaaDoor.P
open Go.RowKit
set_option linter.unusedVariables false
set_option linter.unusedSimpArgs false
def inS (p : Int) (l : List Int) : Bool := l.all (fun a => decide (a < p)) && knownS p
theorem inS_false {p : Int} {l : List Int} {k : Nat} (hk : k < l.length) (h : p ≤ l[k]) : inS p l = false := by
  have : l.all (fun a => decide (a < p)) = false := by
    rw [List.all_eq_false]; exact ⟨l[k], List.getElem_mem hk, by simp; omega⟩
  rw [inS, this, Bool.false_and]
theorem inS_all {p : Int} {l : List Int} (h : ∀ j, (hj : j < l.length) → l[j] < p) : inS p l = knownS p := by
  have : l.all (fun a => decide (a < p)) = true := by
    rw [List.all_eq_true]; intro a ha
    obtain ⟨j, hj, rfl⟩ := List.getElem_of_mem ha
    simpa using h j hj
  rw [inS, this, Bool.true_and]
theorem in_some (p : Int) (x : Addr) (c : Nat) (l : List Int) (w : World) (hr : Row w (some x) (nums .u64 l)) (hl : l.length ≤ 9223372036854775807) :
    Calls Tryd.prog 47 #[.int .u64 p, .slice (some x) l.length c] w fun e w' => e = .returned (.bool (inS p l)) ∧ w' = w := by
  have HR := Lib.hid hr
  clear hr
  go_enter Tryd.func47, Tryd.ntmps47
  go_wp2
  go_loop [6, 9] (fun a i => ∃ k : Nat, k ≤ l.length ∧ i = .int .i64 k ∧ Hid (∀ j, (hj : j < l.length) → j < k → l[j] < p)) (fun _ i => l.length - (intOf i).toNat)
  case atStart => exact ⟨0, Nat.zero_le _, rfl, Lib.hid fun _ _ h => absurd h (Nat.not_lt_zero _)⟩
  case round =>
    obtain ⟨k, hk, rfl, H⟩ := hrel
    by_cases hlt : k < l.length
    · have hc := HR.out.num hlt
      by_cases hge : p ≤ l[k]
      · have HF := Lib.hid (inS_false hlt hge)
        go_wp2
        go_ret
        exact ⟨by rw [HF.out]; rfl, rfl⟩
      · go_wp2
        go_round
        case rel => exact ⟨k + 1, by omega, by go_num, Lib.hid fun j hj hjk => by
          by_cases e : j = k
          · subst e; omega
          · exact H.out j hj (by omega)⟩
        case measure => simp [intOf]; omega
    · have HF := Lib.hid (inS_all (p := p) (l := l) fun j hj => H.out j hj (by omega))
      go_wp2_with (go_at_call 58; refine (known_calls _ _).mono ?_; rintro e w' ⟨rfl, rfl⟩)
      go_ret
      exact ⟨by rw [HF.out]; rfl, rfl⟩
theorem in_nil (p : Int) (A : Option Addr) (c : Nat) (w : World) :
    Calls Tryd.prog 47 #[.int .u64 p, .slice A 0 c] w fun e w' => e = .returned (.bool (inS p [])) ∧ w' = w := by
  have HF : Hid (inS p [] = knownS p) := Lib.hid (inS_all fun j hj => absurd hj (Nat.not_lt_zero _))
  go_enter Tryd.func47, Tryd.ntmps47
  go_wp2
  refine wp_loop_once ?_
  go_wp2_with (go_at_call 58; refine (known_calls _ _).mono ?_; rintro e w' ⟨rfl, rfl⟩)
  go_ret
  exact ⟨by rw [HF.out]; rfl, rfl⟩
theorem in_calls (p : Int) (A : Option Addr) (c : Nat) (l : List Int) (w : World) (hr : Row w A (nums .u64 l)) (hl : l.length ≤ 9223372036854775807) :
    Calls Tryd.prog 47 #[.int .u64 p, .slice A l.length c] w fun e w' => e = .returned (.bool (inS p l)) ∧ w' = w := by
  cases l with
  | nil => exact in_nil p A c w
  | cons a l =>
    obtain ⟨x, rfl⟩ := hr.some_of (by simp [nums])
    exact in_some p x c _ w hr hl
end Go.Proofs.YtohcoidbncbijaaDoor.P
/- The contract of package power's Pow. Conditions: words of 64 bits. -/
namespace Go.Proofs.YtohcoidbncbijaaDoor.P
open Go.RowKit
set_option linter.unusedVariables false
set_option linter.unusedSimpArgs false
theorem and_one {x : Int} (hx : U64 x) : Go.bits .and .u64 x 1 = x % 2 :=
  bits_mask .u64 64 (by decide) wraps_u64 1 (by decide) x hx.1 hx.2
theorem pow_calls (p a n : Int) (w : World) (hp : U64 p) (ha : U64 a) (hn : U64 n) :
    Calls Tryd.prog 42 #[.int .u64 p, .int .u64 a, .int .u64 n] w fun e w' => e = .returned (.int .u64 (powS p a n.toNat)) ∧ Drawn0 w w' := by
  have HA := Lib.hid ha
  have HP := Lib.hid hp
  obtain ⟨n0, n1⟩ := hn
  clear ha hp
  obtain ⟨m, rfl⟩ := Int.eq_ofNat_of_zero_le n0
  rw [Int.toNat_natCast]
  obtain ⟨hb1, hb2⟩ := bitLen_lt m (by omega)
  have HB := Lib.hid hb1
  have HN : Hid (U64 (m : Int)) := Lib.hid ⟨n0, n1⟩
  clear hb1
  go_enter Tryd.func42, Tryd.ntmps42
  go_wp2_with (first
    | (go_at_call 80; refine (reduce_calls _ _ _ HP.out (by decide)).mono ?_; rintro e w' ⟨rfl, rfl⟩)
    | (go_at_call 84; refine (Tryd.bits_Len64 _ _ (by omega) (by omega)).mono ?_; rintro e w' ⟨rfl, rfl⟩; rw [Int.toNat_natCast]))
  go_loopw [7, 8] (fun o i wr => ∃ q : Int, -1 ≤ q ∧ q ≤ 63 ∧ i = .int .i64 q ∧ o = .int .u64 (powS p a (m / 2 ^ (q + 1).toNat)) ∧ Drawn0 w' wr) (fun _ i _ => (intOf i + 1).toNat)
  case atStart => exact ⟨(Lib.bitLen m : Int) - 1, by omega, by omega, rfl, by
    rw [show ((Lib.bitLen m : Int) - 1 + 1).toNat = Lib.bitLen m from by omega, Nat.div_eq_of_lt HB.out, powS_zero], ⟨0, rfl⟩⟩
  case round =>
    obtain ⟨q, hq0, hq1, rfl, rfl, ⟨n, rfl⟩⟩ := hrel
    by_cases hlt : 0 ≤ q
    · have hs : (m : Int) / 2 ^ q.toNat = ((m / 2 ^ q.toNat : Nat) : Int) := by simp
      have hlt2 : m / 2 ^ q.toNat < 18446744073709551616 := Nat.lt_of_le_of_lt (Nat.div_le_self _ _) (by omega)
      have hbit := bit_of m q.toNat
      rw [show q.toNat + 1 = (q + 1).toNat from by omega] at hbit
      have HQ : Hid ((q - 1 + 1).toNat = q.toNat) := Lib.hid (by omega)
      generalize hB : m / 2 ^ q.toNat = B at *
      generalize hD : m / 2 ^ (q + 1).toNat = D at *
      have hand : Go.bits .and .u64 (B : Int) 1 = (B : Int) % 2 := and_one ⟨by omega, by omega⟩
      have HU : Hid (U64 (powS p a D)) := Lib.hid (u64_powS _ _ _)
      have HB := Lib.hid hB
      clear hB hD hlt2 n0 n1
      by_cases hb1 : B % 2 = 1
      · have hb2 : ((B : Int) % 2 == 1) = true := by rw [beq_iff_eq]; omega
        have HX : Hid (mulS p (mulS p (powS p a D) (powS p a D)) a = powS p a B) := Lib.hid (by
          rw [powS_double, powS_succ]; congr 1; omega)
        clear hbit hb1
        go_wp2_with (go_at_call 41; refine (mul_calls _ _ _ _ HP.out (by first | exact HU.out | exact u64_mulS _ _ _) (by first | exact HU.out | exact HA.out)).mono ?_; rintro e w' ⟨rfl, ⟨n2, rfl⟩⟩)
        go_roundw
        case rel => exact ⟨q - 1, by omega, by omega, rfl, by rw [HQ.out, HB.out, ← HX.out], ⟨_, rfl⟩⟩
        case measure => simp [intOf]; omega
      · have hb2 : ((B : Int) % 2 == 1) = false := by rw [beq_eq_false_iff_ne]; omega
        have HX : Hid (mulS p (powS p a D) (powS p a D) = powS p a B) := Lib.hid (by
          rw [powS_double]; congr 1; omega)
        clear hbit hb1
        go_wp2_with (go_at_call 41; refine (mul_calls _ _ _ _ HP.out (by first | exact HU.out | exact u64_mulS _ _ _) (by first | exact HU.out | exact HA.out)).mono ?_; rintro e w' ⟨rfl, ⟨n2, rfl⟩⟩)
        go_roundw
        case rel => exact ⟨q - 1, by omega, by omega, rfl, by rw [HQ.out, HB.out, ← HX.out], ⟨_, rfl⟩⟩
        case measure => simp [intOf]; omega
    · have HE : Hid (powS p a (m / 2 ^ (q + 1).toNat) = powS p a m) := Lib.hid (by rw [show (q + 1).toNat = 0 from by omega]; simp)
      go_wp2
      go_ret
      exact ⟨by rw [← HE.out]; rfl, ⟨_, rfl⟩⟩
/-- What Inv tells: the number that undoes it, and the error's number. -/
def invS (p a : Int) : Int × Int := if knownS p then (if redS p a = 0 then (0, 9) else (powS p a (p - 2).toNat, 0)) else (0, 2)
theorem inv_calls (p a : Int) (w : World) (hp : U64 p) (ha : U64 a) :
    Calls Tryd.prog 74 #[.int .u64 p, .int .u64 a] w fun e w' => e = .returned (.tuple #[.int .u64 (invS p a).1, .int .i64 (invS p a).2]) ∧ Drawn0 w w' := by
  have HA := Lib.hid ha
  have HP := Lib.hid hp
  clear ha hp
  by_cases hk : knownS p = true
  · by_cases hz : redS p a = 0
    · have HF : Hid (invS p a = (0, 9)) := Lib.hid (by rw [invS, if_pos hk, if_pos hz])
      have hz2 : (redS p a == 0) = true := by simpa using hz
      clear hz
      go_enter Tryd.func74, Tryd.ntmps74
      go_wp2_with (first
        | (go_at_call 58; refine (known_calls _ _).mono ?_; rintro e w' ⟨rfl, rfl⟩)
        | (go_at_call 80; refine (reduce_calls _ _ _ HP.out HA.out).mono ?_; rintro e w' ⟨rfl, rfl⟩))
      go_ret2
      exact ⟨by rw [HF.out]; rfl, ⟨0, rfl⟩⟩
    · have HF : Hid (invS p a = (powS p a (p - 2).toNat, 0)) := Lib.hid (by rw [invS, if_pos hk, if_neg hz])
      have hz2 : (redS p a == 0) = false := by simpa using hz
      have hb : 2 ≤ p := by have := (known_pos hk).1; omega
      have hb2 : p < 18446744073709551616 := (known_pos hk).2
      have HU : Hid (U64 (p - 2)) := Lib.hid ⟨by omega, by omega⟩
      clear hz
      go_enter Tryd.func74, Tryd.ntmps74
      go_wp2_with (first
        | (go_at_call 58; refine (known_calls _ _).mono ?_; rintro e w' ⟨rfl, rfl⟩)
        | (go_at_call 80; refine (reduce_calls _ _ _ HP.out HA.out).mono ?_; rintro e w' ⟨rfl, rfl⟩)
        | (go_at_call 42; refine (pow_calls _ _ _ _ HP.out HA.out HU.out).mono ?_; rintro e w' ⟨rfl, ⟨n, rfl⟩⟩))
      go_ret2
      exact ⟨by rw [HF.out]; rfl, ⟨_, rfl⟩⟩
  · have HF : Hid (invS p a = (0, 2)) := Lib.hid (by rw [invS, if_neg hk])
    have hk2 : knownS p = false := by simpa using hk
    clear hk
    go_enter Tryd.func74, Tryd.ntmps74
    go_wp2_with (first
      | (go_at_call 58; refine (known_calls _ _).mono ?_; rintro e w' ⟨rfl, rfl⟩))
    go_ret2
    exact ⟨by rw [HF.out]; rfl, ⟨0, rfl⟩⟩
end Go.Proofs.YtohcoidbncbijaaDoor.P
/- A region that draws its order, whose operations read or make memory alone: one walk in the text's order serves. Under no condition beside those of each lemma. -/
namespace Go.Proofs.YtohcoidbncbijaaDoor.P
open Go.RowKit
theorem wp_region_below {P : Program} {id : Nat} {Q : Exit → Act → World → Prop} {a : Act} {w : World} {l : List Oper} (hm : P.follows .mixedOrders = true) (hB : Region.lexB .any l.toArray = true)
    (h : wpQuiet P l.toArray (fun w' => Below w.heap.size w w') (fun a' => ∀ w', Below w.heap.size w w' → Q .normal a' w') l a) : (Code.region id l.toArray true).wp P Q a w :=
  wp_region_quiet (C := fun w' => Below w.heap.size w w') hm hB ⟨rfl, rfl, rfl, Nat.le_refl _, fun _ _ => rfl⟩ (by simpa using h)
theorem qb_make {P : Program} {f : FuncId} {args : Array Value} {w W : World} {v : Value} (h : Calls P f args W fun e w' => e = .returned v ∧ Below W.heap.size W w') (hW : Below w.heap.size w W) :
    Calls P f args W fun e w' => e = .returned v ∧ Below w.heap.size w w' := h.mono fun _ _ ⟨he, hb⟩ => ⟨he, hW.trans (hb.mono hW.size)⟩
theorem qb_drawn {P : Program} {f : FuncId} {args : Array Value} {w W : World} {v : Value} (h : Calls P f args W fun e w' => e = .returned v ∧ Drawn0 W w') (hW : Below w.heap.size w W) :
    Calls P f args W fun e w' => e = .returned v ∧ Below w.heap.size w w' := h.mono fun _ _ ⟨he, hb⟩ => ⟨he, hW.trans (hb.below _)⟩
theorem qb_same {P : Program} {f : FuncId} {args : Array Value} {w W : World} {v : Value} (h : Calls P f args W fun e w' => e = .returned v ∧ w' = W) (hW : Below w.heap.size w W) :
    Calls P f args W fun e w' => e = .returned v ∧ Below w.heap.size w w' := h.mono fun _ _ ⟨he, hb⟩ => ⟨he, by rw [hb]; exact hW⟩
end Go.Proofs.YtohcoidbncbijaaDoor.P
/- The contracts of package root's Gen, ready and Root. Conditions: words of their kinds. -/
namespace Go.Proofs.YtohcoidbncbijaaDoor.P
open Go.RowKit
set_option linter.unusedVariables false
set_option linter.unusedSimpArgs false
theorem wp_loop_first {P : Program} {Q : Exit → Act → World → Prop} {a : Act} {w : World} {c : Code} (n : Nat) (h : c.wp P (Exit.then (Code.rounds P c Q n) Q) a w) : (Code.loop c).wp P Q a w :=
  wp_loop_rounds (n + 1) h
theorem wp_loop_next {P : Program} {Q : Exit → Act → World → Prop} {a : Act} {w : World} {c : Code} (n : Nat) (h : c.wp P (Exit.then (Code.rounds P c Q n) Q) a w) : Code.rounds P c Q (n + 1) a w := h
def genS (p : Int) : Int := if p = 18446744069414584321 then 7 else if p = 998244353 then 3 else if p = 2013265921 then 31 else 0
theorem gen_index0 (Z : Int) (w : World) : (Instr.index 148 (.agg #[.int .u64 Z, .int .u64 7, .int .u64 998244353, .int .u64 3, .int .u64 2013265921, .int .u64 31]) (.int .i64 0)).run Tryd.prog w = .ok (.agg #[.int .u64 Z, .int .u64 7]) w := by kernel_rfl
theorem gen_index1 (Z : Int) (w : World) : (Instr.index 148 (.agg #[.int .u64 Z, .int .u64 7, .int .u64 998244353, .int .u64 3, .int .u64 2013265921, .int .u64 31]) (.int .i64 1)).run Tryd.prog w = .ok (.agg #[.int .u64 998244353, .int .u64 3]) w := by kernel_rfl
theorem gen_index2 (Z : Int) (w : World) : (Instr.index 148 (.agg #[.int .u64 Z, .int .u64 7, .int .u64 998244353, .int .u64 3, .int .u64 2013265921, .int .u64 31]) (.int .i64 2)).run Tryd.prog w = .ok (.agg #[.int .u64 2013265921, .int .u64 31]) w := by kernel_rfl
theorem gen_calls (p : Int) (w : World) :
    Calls Tryd.prog 105 #[.int .u64 p] w fun e w' => e = .returned (.int .u64 (genS p)) ∧ Below w.heap.size w w' := by
  have hG : ∀ Z : Int, Z = 18446744069414584321 → genS p = if Z = p then 7 else if 998244353 = p then 3 else if 2013265921 = p then 31 else 0 := by
    intro Z hZ; subst hZ; unfold genS; simp only [eq_comm]
  have HG := Lib.hid hG
  clear hG
  go_enter Tryd.func105, Tryd.ntmps105
  go_wp2
  generalize hZ : (18446744069414584321 : Int) = Z
  have HV := Lib.hid (HG.out Z hZ.symm)
  clear hZ HG
  have i0 := gen_index0 Z
  have i1 := gen_index1 Z
  have i2 := gen_index2 Z
  by_cases h0 : Z = p
  · have HX : Hid (genS p = 7) := Lib.hid (by rw [HV.out, if_pos h0])
    have f0 : (Z == p) = true := by simpa using h0
    clear h0
    refine wp_loop_first 3 ?_
    go_wp2
    go_ret
    exact ⟨by rw [HX.out]; rfl, (Below.refl _ _).alloc (Nat.le_refl _) _⟩
  · have f0 : (Z == p) = false := by simpa using h0
    by_cases h1 : 998244353 = p
    · have HX : Hid (genS p = 3) := Lib.hid (by rw [HV.out, if_neg h0, if_pos h1])
      have f1 : ((998244353 : Int) == p) = true := by simpa using h1
      clear h0 h1
      refine wp_loop_first 3 ?_
      go_wp2
      refine wp_loop_next 2 ?_
      go_wp2
      go_ret
      exact ⟨by rw [HX.out]; rfl, ((Below.refl _ _).alloc (Nat.le_refl _) _).alloc (by simp) _⟩
    · have f1 : ((998244353 : Int) == p) = false := by simpa using h1
      by_cases h2 : 2013265921 = p
      · have HX : Hid (genS p = 31) := Lib.hid (by rw [HV.out, if_neg h0, if_neg h1, if_pos h2])
        have f2 : ((2013265921 : Int) == p) = true := by simpa using h2
        clear h0 h1 h2
        refine wp_loop_first 3 ?_
        go_wp2
        refine wp_loop_next 2 ?_
        go_wp2
        refine wp_loop_next 1 ?_
        go_wp2
        go_ret
        exact ⟨by rw [HX.out]; rfl, (((Below.refl _ _).alloc (Nat.le_refl _) _).alloc (by simp) _).alloc (by simp; omega) _⟩
      · have HX : Hid (genS p = 0) := Lib.hid (by rw [HV.out, if_neg h0, if_neg h1, if_neg h2])
        have f2 : ((2013265921 : Int) == p) = false := by simpa using h2
        clear h0 h1 h2
        refine wp_loop_first 3 ?_
        go_wp2
        refine wp_loop_next 2 ?_
        go_wp2
        refine wp_loop_next 1 ?_
        go_wp2
        refine wp_loop_next 0 ?_
        go_wp2
        go_ret
        exact ⟨by rw [HX.out]; rfl, (((Below.refl _ _).alloc (Nat.le_refl _) _).alloc (by simp) _).alloc (by simp; omega) _⟩
end Go.Proofs.YtohcoidbncbijaaDoor.P
/- The contracts of package root's ready and Root. Conditions: words of their kinds. -/
namespace Go.Proofs.YtohcoidbncbijaaDoor.P
open Go.RowKit
set_option linter.unusedVariables false
set_option linter.unusedSimpArgs false
def readyS (p n : Int) : Int := if knownS p then (if 1 ≤ n ∧ n ≤ 8192 then 0 else 1) else 2
theorem ready_calls (p n : Int) (w : World) :
    Calls Tryd.prog 104 #[.int .u64 p, .int .i64 n] w fun e w' => e = .returned (.int .i64 (readyS p n)) ∧ w' = w := by
  by_cases hk : knownS p = true
  · by_cases h0 : n < 1
    · have HF : Hid (readyS p n = 1) := Lib.hid (by rw [readyS, if_pos hk, if_neg (by omega)])
      have f0 : decide (n < 1) = true := by simpa using h0
      go_enter Tryd.func104, Tryd.ntmps104
      go_wp2_with (go_at_call 58; refine (known_calls _ _).mono ?_; rintro e w' ⟨rfl, rfl⟩)
      go_ret
      exact ⟨by rw [HF.out]; rfl, rfl⟩
    · have f0 : decide (n < 1) = false := by simpa using h0
      by_cases h1 : 8192 < n
      · have HF : Hid (readyS p n = 1) := Lib.hid (by rw [readyS, if_pos hk, if_neg (by omega)])
        have f1 : decide (8192 < n) = true := by simpa using h1
        go_enter Tryd.func104, Tryd.ntmps104
        go_wp2_with (go_at_call 58; refine (known_calls _ _).mono ?_; rintro e w' ⟨rfl, rfl⟩)
        go_ret
        exact ⟨by rw [HF.out]; rfl, rfl⟩
      · have HF : Hid (readyS p n = 0) := Lib.hid (by rw [readyS, if_pos hk, if_pos (by omega)])
        have f1 : decide (8192 < n) = false := by simpa using h1
        go_enter Tryd.func104, Tryd.ntmps104
        go_wp2_with (go_at_call 58; refine (known_calls _ _).mono ?_; rintro e w' ⟨rfl, rfl⟩)
        go_ret
        exact ⟨by rw [HF.out]; rfl, rfl⟩
  · have HF : Hid (readyS p n = 2) := Lib.hid (by rw [readyS, if_neg hk])
    have hk2 : knownS p = false := by simpa using hk
    clear hk
    go_enter Tryd.func104, Tryd.ntmps104
    go_wp2_with (go_at_call 58; refine (known_calls _ _).mono ?_; rintro e w' ⟨rfl, rfl⟩)
    go_ret
    exact ⟨by rw [HF.out]; rfl, rfl⟩
def rootS (p n : Int) : Int × Int :=
  if readyS p n = 0 then (if (p - 1) % n = 0 then (powS p (genS p) ((p - 1) / n).toNat, 0) else (0, 5)) else (0, readyS p n)
theorem root_calls (p n : Int) (w : World) (hp : U64 p) :
    Calls Tryd.prog 62 #[.int .u64 p, .int .i64 n] w fun e w' => e = .returned (.tuple #[.int .u64 (rootS p n).1, .int .i64 (rootS p n).2]) ∧ Below w.heap.size w w' := by
  have HP := Lib.hid hp
  by_cases hr : readyS p n = 0
  · have hk : knownS p = true := by
      by_cases h : knownS p = true
      · exact h
      · rw [readyS, if_neg h] at hr; omega
    have hn : 1 ≤ n ∧ n ≤ 8192 := by
      rw [readyS, if_pos hk] at hr
      by_cases h : 1 ≤ n ∧ n ≤ 8192
      · exact h
      · rw [if_neg h] at hr; omega
    obtain ⟨n0, n1⟩ := hn
    obtain ⟨p0, p1⟩ := known_pos hk
    have HR := Lib.hid hr
    clear hr hk hp
    by_cases hz : (p - 1) % n = 0
    · have f0 : decide (0 < (p - 1) % n) = false := by rw [hz]; rfl
      have HF : Hid (rootS p n = (powS p (genS p) ((p - 1) / n).toNat, 0)) := Lib.hid (by rw [rootS, if_pos HR.out, if_pos hz])
      have hq0 : 0 ≤ (p - 1) / n := Int.ediv_nonneg (by omega) (by omega)
      have hq1 : (p - 1) / n ≤ p - 1 := Int.ediv_le_self _ (by omega)
      have HU : Hid (U64 ((p - 1) / n)) := Lib.hid ⟨hq0, by omega⟩
      have HGU : Hid (U64 (genS p)) := Lib.hid (by unfold genS; split <;> (try split) <;> (try split) <;> decide)
      clear hz
      go_enter Tryd.func62, Tryd.ntmps62
      go_wp2_with (go_at_call 104; refine (ready_calls _ _ _).mono ?_; rw [HR.out]; rintro e w' ⟨rfl, rfl⟩)
      have hz0 : ¬ n = 0 := by omega
      have hw1 : IntKind.u64.wrap (p - 1) = p - 1 := by rw [wrap_u64]; omega
      have hw2 : IntKind.u64.wrap n = n := by rw [wrap_u64]; omega
      have hw3 : (p - 1).tdiv n = (p - 1) / n := Int.tdiv_eq_ediv_of_nonneg (by omega)
      have hw4 : IntKind.u64.wrap ((p - 1) / n) = (p - 1) / n := by rw [wrap_u64]; omega
      refine wp_region_below (by kernel_rfl) (by kernel_rfl) ?_
      repeat (first
        | (refine wpQuiet_step (fun K hK => ?_); go_simp; refine ⟨_, fun _ _ => rfl, hK _ ?_⟩; clear hK K)
        | (refine wpQuiet_step (fun K hK => ?_); go_simp; apply Exists.intro; refine ⟨fun W hW => ?qc, hK _ ?_⟩
           (case qc => first
            | (go_at_call 105; exact qb_make (gen_calls _ _) hW)
            | (go_at_call 42; exact qb_drawn (pow_calls _ _ _ _ HP.out HGU.out HU.out) hW))
           clear hK K))
      refine wpQuiet_nil ?_
      intro w2 hw2
      go_wp2
      go_ret2
      exact ⟨by rw [HF.out]; rfl, hw2⟩
    · have f0 : decide (0 < (p - 1) % n) = true := by
        have := Int.emod_nonneg (p - 1) (b := n) (by omega)
        simp; omega
      have HF : Hid (rootS p n = (0, 5)) := Lib.hid (by rw [rootS, if_pos HR.out, if_neg hz])
      clear hz
      go_enter Tryd.func62, Tryd.ntmps62
      go_wp2_with (go_at_call 104; refine (ready_calls _ _ _).mono ?_; rw [HR.out]; rintro e w' ⟨rfl, rfl⟩)
      go_ret2
      exact ⟨by rw [HF.out]; rfl, Below.refl _ _⟩
  · have HF : Hid (rootS p n = (0, readyS p n)) := Lib.hid (by rw [rootS, if_neg hr])
    have f0 : (readyS p n != 0) = true := by simpa using hr
    clear hr
    go_enter Tryd.func62, Tryd.ntmps62
    go_wp2_with (go_at_call 104; refine (ready_calls _ _ _).mono ?_; rintro e w' ⟨rfl, rfl⟩)
    go_ret2
    exact ⟨by rw [HF.out]; rfl, Below.refl _ _⟩
end Go.Proofs.YtohcoidbncbijaaDoor.P
/- Orders, plainly: what package root's Order looks for. Under no condition beside those of each lemma. -/
namespace Go.Proofs.YtohcoidbncbijaaDoor.P
set_option linter.unusedVariables false
/-- a's power n is 1, and none ahead of it. -/
def IsOrd (p a : Int) (n : Nat) : Prop := powS p a n = 1 ∧ ∀ k, k < n → 0 < k → powS p a k ≠ 1
instance (p a : Int) (n : Nat) : Decidable (IsOrd p a n) := by unfold IsOrd; exact inferInstance
/-- What Order's loop holds: what is left, and the next number that is tried. -/
structure Sieve (p a : Int) (n left q : Nat) : Prop where
  q2 : 2 ≤ q
  l1 : 1 ≤ left
  dvd : left ∣ n
  few : ∀ d, 2 ≤ d → d < q → ¬ d ∣ left
  met : ∀ m, m ∣ n → 1 < m → (∃ d, 1 < d ∧ d ∣ m ∧ d ∣ left) ∨ (∃ d, 1 < d ∧ d ∣ m ∧ powS p a (n / d) ≠ 1)
theorem Sieve.start {p a : Int} {n : Nat} (hn : 1 ≤ n) : Sieve p a n n 2 :=
  ⟨Nat.le_refl _, hn, Nat.dvd_refl _, fun d h1 h2 => absurd h2 (by omega), fun m hm h1 => .inl ⟨m, h1, Nat.dvd_refl _, hm⟩⟩
theorem Sieve.le {p a : Int} {n left q : Nat} (h : Sieve p a n left q) (hl : 1 < left) : q ≤ left := by
  rcases Nat.lt_or_ge left q with h1 | h1
  · exact absurd (Nat.dvd_refl left) (h.few left hl h1)
  · exact h1
theorem Sieve.le_n {p a : Int} {n left q : Nat} (h : Sieve p a n left q) (hn : 1 ≤ n) : left ≤ n := Nat.le_of_dvd hn h.dvd
theorem Sieve.skip {p a : Int} {n left q : Nat} (h : Sieve p a n left q) (hq : left % q ≠ 0) : Sieve p a n left (q + 1) :=
  ⟨by have := h.q2; omega, h.l1, h.dvd, fun d h1 h2 => by
    by_cases e : d = q
    · subst e; exact fun hd => hq (Nat.mod_eq_zero_of_dvd hd)
    · exact h.few d h1 (by omega), h.met⟩
theorem Sieve.take {p a : Int} {n left q j l2 : Nat} (h : Sieve p a n left q) (hq : left % q = 0) (hj : left = q ^ j * l2) (hl : l2 % q ≠ 0) (hp : powS p a (n / q) ≠ 1) : Sieve p a n l2 (q + 1) := by
  have hd : l2 ∣ left := ⟨q ^ j, by rw [hj, Nat.mul_comm]⟩
  have hprime : ∀ d, d ∣ q → d = 1 ∨ d = q := by
    intro d hdq
    have hdl : d ∣ left := Nat.dvd_trans hdq (Nat.dvd_of_mod_eq_zero hq)
    have hle := Nat.le_of_dvd (by have := h.q2; omega) hdq
    by_cases e : d = q
    · exact .inr e
    · by_cases h2 : 2 ≤ d
      · exact absurd hdl (h.few d h2 (by omega))
      · left
        have : d ≠ 0 := fun h0 => by subst h0; have := h.q2; have := Nat.eq_zero_of_zero_dvd hdq; omega
        omega
  refine ⟨by have := h.q2; omega, ?_, Nat.dvd_trans hd h.dvd, ?_, ?_⟩
  · rcases Nat.eq_zero_or_pos l2 with h0 | h0
    · subst h0; simp at hl
    · exact h0
  · intro d h1 h2 hdl
    by_cases e : d = q
    · subst e; exact hl (Nat.mod_eq_zero_of_dvd hdl)
    · exact h.few d h1 (by omega) (Nat.dvd_trans hdl hd)
  · intro m hm h1
    rcases h.met m hm h1 with ⟨d, hd1, hdm, hdl⟩ | h2
    · rcases hprime (Nat.gcd d q) (Nat.gcd_dvd_right d q) with hg | hg
      · left
        refine ⟨d, hd1, hdm, ?_⟩
        rw [hj] at hdl
        exact Nat.Coprime.dvd_of_dvd_mul_left (Nat.Coprime.pow_right j hg) hdl
      · right
        have hqd : q ∣ d := by rw [← hg]; exact Nat.gcd_dvd_left d q
        exact ⟨q, by have := h.q2; omega, Nat.dvd_trans hqd hdm, hp⟩
    · exact .inr h2
theorem powS_one_mul {p a : Int} {n : Nat} (h1 : redS p 1 = 1) (h : powS p a n = 1) (k : Nat) : powS p a (n * k) = 1 := by
  rw [powS_mul, h]
  unfold powS
  rw [Int.one_pow]; exact h1
theorem Sieve.done {p a : Int} {n left q : Nat} (h : Sieve p a n left q) (hl : left ≤ 1) (h1 : redS p 1 = 1) (hn : 1 ≤ n) (hp : powS p a n = 1) : IsOrd p a n := by
  refine ⟨hp, ?_⟩
  intro k hkn hk0 hk
  obtain ⟨d, ⟨hd0, hdn, hdg⟩, hmin⟩ : ∃ d, (0 < d ∧ d < n ∧ powS p a d = 1) ∧ ∀ e, 0 < e → e < d → powS p a e ≠ 1 := by
    induction k using Nat.strongRecOn with
    | ind k ih =>
      by_cases hx : ∃ e, 0 < e ∧ e < k ∧ powS p a e = 1
      · obtain ⟨e, he0, hek, heg⟩ := hx
        exact ih e hek (by omega) he0 heg
      · exact ⟨k, ⟨hk0, hkn, hk⟩, fun e he0 hek h => hx ⟨e, he0, hek, h⟩⟩
  have hdvd : d ∣ n := by
    have e : n = d * (n / d) + n % d := (Nat.div_add_mod n d).symm
    have h2 : powS p a (n % d) = 1 := by
      have h3 := hp
      rw [e, powS_add, powS_one_mul h1 hdg] at h3
      unfold mulS at h3
      rw [Int.one_mul] at h3
      unfold powS at h3 ⊢
      rwa [redS_redS] at h3
    by_cases hz : n % d = 0
    · exact Nat.dvd_of_mod_eq_zero hz
    · exact absurd h2 (hmin _ (by omega) (Nat.mod_lt _ hd0))
  obtain ⟨m, hm⟩ := hdvd
  have hm1 : 1 < m := by
    rcases Nat.lt_or_ge 1 m with h | h
    · exact h
    · have : d * m ≤ d * 1 := Nat.mul_le_mul_left d h
      omega
  rcases h.met m ⟨d, by rw [hm, Nat.mul_comm]⟩ hm1 with ⟨c, hc1, _, hcl⟩ | ⟨c, hc1, ⟨r, hr⟩, hc⟩
  · have := Nat.le_of_dvd (by have := h.l1; omega) hcl
    omega
  · apply hc
    have : n / c = d * r := by rw [hm, hr, Nat.mul_left_comm, Nat.mul_div_cancel_left _ (by omega)]
    rw [this]; exact powS_one_mul h1 hdg r
theorem Sieve.no {p a : Int} {n left q : Nat} (h : Sieve p a n left q) (hq : left % q = 0) (hn : 1 ≤ n) (hp : powS p a (n / q) = 1) : ¬ IsOrd p a n := by
  intro ⟨_, ho⟩
  have hqn : q ∣ n := Nat.dvd_trans (Nat.dvd_of_mod_eq_zero hq) h.dvd
  have h2 := h.q2
  have hlt : n / q < n := Nat.div_lt_self (by omega) (by omega)
  have hpos : 0 < n / q := Nat.div_pos (Nat.le_of_dvd hn hqn) (by omega)
  exact ho _ hlt hpos hp
end Go.Proofs.YtohcoidbncbijaaDoor.P
/- The contracts of package root's Order and Back. Conditions: words of their kinds. -/
namespace Go.Proofs.YtohcoidbncbijaaDoor.P
open Go.RowKit
set_option linter.unusedVariables false
set_option linter.unusedSimpArgs false
theorem ready_ok {p n : Int} (h : readyS p n = 0) : knownS p = true ∧ 1 ≤ n ∧ n ≤ 8192 := by
  by_cases hk : knownS p = true
  · rw [readyS, if_pos hk] at h
    by_cases h2 : 1 ≤ n ∧ n ≤ 8192
    · exact ⟨hk, h2.1, h2.2⟩
    · rw [if_neg h2] at h; omega
  · rw [readyS, if_neg hk] at h; omega
/-- What Order tells. -/
def orderS (p a n : Int) : Bool × Int := if readyS p n = 0 then (decide (IsOrd p a n.toNat), 0) else (false, readyS p n)
/-- What Back tells. -/
def backS (p n : Int) : Int × Int := if (rootS p n).2 = 0 then invS p (rootS p n).1 else (0, (rootS p n).2)
theorem u64_genS (p : Int) : U64 (genS p) := by unfold genS; split <;> (try split) <;> (try split) <;> decide
theorem u64_rootS (p n : Int) : U64 (rootS p n).1 := by
  unfold rootS; split <;> (try split) <;> first | exact u64_powS _ _ _ | exact (show U64 0 by decide)
theorem back_calls (p n : Int) (w : World) (hp : U64 p) :
    Calls Tryd.prog 111 #[.int .u64 p, .int .i64 n] w fun e w' => e = .returned (.tuple #[.int .u64 (backS p n).1, .int .i64 (backS p n).2]) ∧ Below w.heap.size w w' := by
  have HP := Lib.hid hp
  have HU := Lib.hid (u64_rootS p n)
  by_cases hr : (rootS p n).2 = 0
  · have HF : Hid (backS p n = invS p (rootS p n).1) := Lib.hid (by rw [backS, if_pos hr])
    have HR := Lib.hid hr
    clear hr hp
    go_enter Tryd.func111, Tryd.ntmps111
    go_wp2_with (first
      | (go_at_call 62; refine (root_calls _ _ _ HP.out).mono ?_; rw [HR.out]; rintro e w' ⟨rfl, hb⟩)
      | (go_at_call 74; refine (inv_calls _ _ _ HP.out HU.out).mono ?_; rintro e w' ⟨rfl, ⟨n1, rfl⟩⟩))
    go_ret2
    exact ⟨by rw [HF.out]; rfl, below_drewN hb _⟩
  · have HF : Hid (backS p n = (0, (rootS p n).2)) := Lib.hid (by rw [backS, if_neg hr])
    have f0 : ((rootS p n).2 != 0) = true := by simpa using hr
    clear hr hp
    go_enter Tryd.func111, Tryd.ntmps111
    go_wp2_with (go_at_call 62; refine (root_calls _ _ _ HP.out).mono ?_; rintro e w' ⟨rfl, hb⟩)
    go_ret2
    exact ⟨by rw [HF.out]; rfl, hb⟩
end Go.Proofs.YtohcoidbncbijaaDoor.P
