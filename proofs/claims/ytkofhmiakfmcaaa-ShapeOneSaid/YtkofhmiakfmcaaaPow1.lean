/- The contract of package power's Pow. Conditions: words of 64 bits. -/
import Derived.Test.YtkofhmiakfmcaaaPow0
import Derived.Test.YtkofhmiakfmcaaaField5
namespace Go.Proofs.Ytkofhmiakfmcaaa.P
open Go.RowKit
set_option linter.unusedVariables false
set_option linter.unusedSimpArgs false
theorem and_one {x : Int} (hx : U64 x) : Go.bits .and .u64 x 1 = x % 2 :=
  bits_mask .u64 64 (by decide) wraps_u64 1 (by decide) x hx.1 hx.2
theorem pow_calls (p a n : Int) (w : World) (hp : U64 p) (ha : U64 a) (hn : U64 n) :
    Calls Try.prog 47 #[.int .u64 p, .int .u64 a, .int .u64 n] w fun e w' => e = .returned (.int .u64 (powS p a n.toNat)) ∧ Drawn0 w w' := by
  have HA := Lib.hid ha
  have HP := Lib.hid hp
  obtain ⟨n0, n1⟩ := hn
  clear ha hp
  obtain ⟨m, rfl⟩ := Int.eq_ofNat_of_zero_le n0
  rw [Int.toNat_natCast]
  obtain ⟨hb1, hb2⟩ := bitLen_lt m (by omega)
  have HB := Lib.hid hb1
  have HN : Hid (U64 (m : Int)) := Lib.hid ⟨n0, n1⟩
  clear hb1
  go_enter Try.func47, Try.ntmps47
  go_wp2_with (first
    | (go_at_call 45; refine (reduce_calls _ _ _ HP.out (by decide)).mono ?_; rintro e w' ⟨rfl, rfl⟩)
    | (go_at_call 94; refine (Try.bits_Len64 _ _ (by omega) (by omega)).mono ?_; rintro e w' ⟨rfl, rfl⟩; rw [Int.toNat_natCast]))
  go_loopw [7, 8] (fun o i wr => ∃ q : Int, -1 ≤ q ∧ q ≤ 63 ∧ i = .int .i64 q ∧ o = .int .u64 (powS p a (m / 2 ^ (q + 1).toNat)) ∧ Drawn0 w' wr) (fun _ i _ => (intOf i + 1).toNat)
  case atStart => exact ⟨(Lib.bitLen m : Int) - 1, by omega, by omega, rfl, by
    rw [show ((Lib.bitLen m : Int) - 1 + 1).toNat = Lib.bitLen m from by omega, Nat.div_eq_of_lt HB.out, powS_zero], ⟨0, rfl⟩⟩
  case round =>
    obtain ⟨q, hq0, hq1, rfl, rfl, ⟨n, rfl⟩⟩ := hrel
    by_cases hlt : 0 ≤ q
    · have hs : (m : Int) / 2 ^ q.toNat = ((m / 2 ^ q.toNat : Nat) : Int) := by simp
      have hlt2 : m / 2 ^ q.toNat < 18446744073709551616 := Nat.lt_of_le_of_lt (Nat.div_le_self _ _) (by omega)
      have hbit := bit_of m q.toNat
      rw [show q.toNat + 1 = (q + 1).toNat from by omega] at hbit
      have HQ : Hid ((q - 1 + 1).toNat = q.toNat) := Lib.hid (by omega)
      generalize hB : m / 2 ^ q.toNat = B at *
      generalize hD : m / 2 ^ (q + 1).toNat = D at *
      have hand : Go.bits .and .u64 (B : Int) 1 = (B : Int) % 2 := and_one ⟨by omega, by omega⟩
      have HU : Hid (U64 (powS p a D)) := Lib.hid (u64_powS _ _ _)
      have HB := Lib.hid hB
      clear hB hD hlt2 n0 n1
      by_cases hb1 : B % 2 = 1
      · have hb2 : ((B : Int) % 2 == 1) = true := by rw [beq_iff_eq]; omega
        have HX : Hid (mulS p (mulS p (powS p a D) (powS p a D)) a = powS p a B) := Lib.hid (by
          rw [powS_double, powS_succ]; congr 1; omega)
        clear hbit hb1
        go_wp2_with (go_at_call 44; refine (mul_calls _ _ _ _ HP.out (by first | exact HU.out | exact u64_mulS _ _ _) (by first | exact HU.out | exact HA.out)).mono ?_; rintro e w' ⟨rfl, ⟨n2, rfl⟩⟩)
        go_roundw
        case rel => exact ⟨q - 1, by omega, by omega, rfl, by rw [HQ.out, HB.out, ← HX.out], ⟨_, rfl⟩⟩
        case measure => simp [intOf]; omega
      · have hb2 : ((B : Int) % 2 == 1) = false := by rw [beq_eq_false_iff_ne]; omega
        have HX : Hid (mulS p (powS p a D) (powS p a D) = powS p a B) := Lib.hid (by
          rw [powS_double]; congr 1; omega)
        clear hbit hb1
        go_wp2_with (go_at_call 44; refine (mul_calls _ _ _ _ HP.out (by first | exact HU.out | exact u64_mulS _ _ _) (by first | exact HU.out | exact HA.out)).mono ?_; rintro e w' ⟨rfl, ⟨n2, rfl⟩⟩)
        go_roundw
        case rel => exact ⟨q - 1, by omega, by omega, rfl, by rw [HQ.out, HB.out, ← HX.out], ⟨_, rfl⟩⟩
        case measure => simp [intOf]; omega
    · have HE : Hid (powS p a (m / 2 ^ (q + 1).toNat) = powS p a m) := Lib.hid (by rw [show (q + 1).toNat = 0 from by omega]; simp)
      go_wp2
      go_ret
      exact ⟨by rw [← HE.out]; rfl, ⟨_, rfl⟩⟩
/-- What Inv tells: the number that undoes it, and the error's number. -/
def invS (p a : Int) : Int × Int := if knownS p then (if redS p a = 0 then (0, 9) else (powS p a (p - 2).toNat, 0)) else (0, 2)
theorem inv_calls (p a : Int) (w : World) (hp : U64 p) (ha : U64 a) :
    Calls Try.prog 48 #[.int .u64 p, .int .u64 a] w fun e w' => e = .returned (.tuple #[.int .u64 (invS p a).1, .int .i64 (invS p a).2]) ∧ Drawn0 w w' := by
  have HA := Lib.hid ha
  have HP := Lib.hid hp
  clear ha hp
  by_cases hk : knownS p = true
  · by_cases hz : redS p a = 0
    · have HF : Hid (invS p a = (0, 9)) := Lib.hid (by rw [invS, if_pos hk, if_pos hz])
      have hz2 : (redS p a == 0) = true := by simpa using hz
      clear hz
      go_enter Try.func48, Try.ntmps48
      go_wp2_with (first
        | (go_at_call 43; refine (known_calls _ _).mono ?_; rintro e w' ⟨rfl, rfl⟩)
        | (go_at_call 45; refine (reduce_calls _ _ _ HP.out HA.out).mono ?_; rintro e w' ⟨rfl, rfl⟩))
      go_ret2
      exact ⟨by rw [HF.out]; rfl, ⟨0, rfl⟩⟩
    · have HF : Hid (invS p a = (powS p a (p - 2).toNat, 0)) := Lib.hid (by rw [invS, if_pos hk, if_neg hz])
      have hz2 : (redS p a == 0) = false := by simpa using hz
      have hb : 2 ≤ p := by have := (known_pos hk).1; omega
      have hb2 : p < 18446744073709551616 := (known_pos hk).2
      have HU : Hid (U64 (p - 2)) := Lib.hid ⟨by omega, by omega⟩
      clear hz
      go_enter Try.func48, Try.ntmps48
      go_wp2_with (first
        | (go_at_call 43; refine (known_calls _ _).mono ?_; rintro e w' ⟨rfl, rfl⟩)
        | (go_at_call 45; refine (reduce_calls _ _ _ HP.out HA.out).mono ?_; rintro e w' ⟨rfl, rfl⟩)
        | (go_at_call 47; refine (pow_calls _ _ _ _ HP.out HA.out HU.out).mono ?_; rintro e w' ⟨rfl, ⟨n, rfl⟩⟩))
      go_ret2
      exact ⟨by rw [HF.out]; rfl, ⟨_, rfl⟩⟩
  · have HF : Hid (invS p a = (0, 2)) := Lib.hid (by rw [invS, if_neg hk])
    have hk2 : knownS p = false := by simpa using hk
    clear hk
    go_enter Try.func48, Try.ntmps48
    go_wp2_with (first
      | (go_at_call 43; refine (known_calls _ _).mono ?_; rintro e w' ⟨rfl, rfl⟩))
    go_ret2
    exact ⟨by rw [HF.out]; rfl, ⟨0, rfl⟩⟩
theorem live02_calls (w : World) : Calls Try.prog 46 #[] w fun e w' => e = .returned (.bool true) ∧ Drawn0 w w' := by
  have HF : Hid (invS 998244353 2 = (499122177, 0)) := Lib.hid (by
    have h1 : powS 998244353 2 (998244353 - 2 : Int).toNat = 499122177 := by
      have h2 := powS_pm (P := 998244353) (a := 2) (n := (998244353 - 2 : Int).toNat) rfl (by decide)
      have h3 : pm 998244353 64 2 (998244353 - 2 : Int).toNat = 499122177 := by decide +kernel
      rw [h3] at h2
      exact h2
    rw [invS, if_pos (by rfl), if_neg (by decide), h1])
  go_enter Try.func46, Try.ntmps46
  go_wp2_with (go_at_call 48; refine (inv_calls _ _ _ (by decide) (by decide)).mono ?_; rw [HF.out]; rintro e w' ⟨rfl, ⟨n, rfl⟩⟩)
  go_ret
  exact ⟨rfl, ⟨_, rfl⟩⟩
end Go.Proofs.Ytkofhmiakfmcaaa.P
