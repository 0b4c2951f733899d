/- The contracts of brackenref02's Pow and Inv, and brackenref03's functions: they come to what the program's come to. Conditions: words of their kinds. -/
import Derived.Test.YtkofhmiakfmcaaaRootP
import Derived.Test.YtkofhmiakfmcaaaRef01b
namespace Go.Proofs.Ytkofhmiakfmcaaa.P
open Go.RowKit
set_option linter.unusedVariables false
set_option linter.unusedSimpArgs false
theorem r02_pow (p a : Int) (hp : U64 p) (ha : U64 a) : ∀ (n : Nat) (w : World), n < 18446744073709551616 →
    Calls Try.prog 67 #[.int .u64 p, .int .u64 a, .int .u64 n] w fun e w' => e = .returned (.int .u64 (powS p a n)) ∧ Drawn0 w w' := by
  have HP := Lib.hid hp
  have HA := Lib.hid ha
  clear hp ha
  intro n
  induction n using Nat.strongRecOn with
  | ind n ih =>
    intro w hn
    by_cases h0 : n = 0
    · subst h0
      have HF : Hid (powS p a 0 = redS p 1) := Lib.hid (powS_zero _ _)
      clear ih
      rw [show ((0 : Nat) : Int) = 0 from rfl]
      go_enter Try.func67, Try.ntmps67
      go_wp2_with fail
      refine (r01_reduce _ _ _ HP.out (by decide)).mono ?_
      rintro e w' ⟨rfl, rfl⟩
      go_wp2_with fail
      go_ret
      exact ⟨by rw [HF.out]; rfl, ⟨0, rfl⟩⟩
    · have HW : Hid (IntKind.u64.wrap ((n : Int) / 2) = ((n / 2 : Nat) : Int)) := Lib.hid (by rw [wrap_u64]; omega)
      have ih2 := Lib.hid (fun w => ih (n / 2) (by omega) w (by omega))
      have f0 : ((n : Int) == 0) = false := by simpa using h0
      clear ih hn
      by_cases h1 : n % 2 = 1
      · have F1 : Hid (((n : Int) % 2 == 1) = true) := Lib.hid (by rw [beq_iff_eq]; omega)
        have HF : Hid (mulS p (mulS p (powS p a (n / 2)) (powS p a (n / 2))) a = powS p a n) := Lib.hid (by
          rw [powS_double, powS_succ]; congr 1; omega)
        clear h1
        go_enter Try.func67, Try.ntmps67
        go_wp2_with fail
        rw [HW.out]
        refine (ih2.out _).mono ?_
        rintro e w2 ⟨rfl, ⟨q, rfl⟩⟩
        go_wp2_with fail
        refine (r01_mul _ _ _ _ HP.out (u64_powS _ _ _) (u64_powS _ _ _)).mono ?_
        rintro e w2 ⟨rfl, rfl⟩
        have f1 := F1.out
        go_wp2_with fail
        refine (r01_mul _ _ _ _ HP.out (u64_mulS _ _ _) HA.out).mono ?_
        rintro e w2 ⟨rfl, rfl⟩
        rw [HF.out]
        go_wp2_with fail
        go_ret
        exact ⟨rfl, ⟨_, rfl⟩⟩
      · have F1 : Hid (((n : Int) % 2 == 1) = false) := Lib.hid (by rw [beq_eq_false_iff_ne]; omega)
        have HF : Hid (mulS p (powS p a (n / 2)) (powS p a (n / 2)) = powS p a n) := Lib.hid (by
          rw [powS_double]; congr 1; omega)
        clear h1
        go_enter Try.func67, Try.ntmps67
        go_wp2_with fail
        rw [HW.out]
        refine (ih2.out _).mono ?_
        rintro e w2 ⟨rfl, ⟨q, rfl⟩⟩
        go_wp2_with fail
        refine (r01_mul _ _ _ _ HP.out (u64_powS _ _ _) (u64_powS _ _ _)).mono ?_
        rintro e w2 ⟨rfl, rfl⟩
        rw [HF.out]
        have f1 := F1.out
        go_wp2_with fail
        go_ret
        exact ⟨rfl, ⟨_, rfl⟩⟩
theorem r02_inv (p a : Int) (w : World) (hp : U64 p) (ha : U64 a) :
    Calls Try.prog 64 #[.int .u64 p, .int .u64 a] w fun e w' => e = .returned (.tuple #[.int .u64 (invS p a).1, .int .i64 (invS p a).2]) ∧ Drawn0 w w' := by
  have HA := Lib.hid ha
  have HP := Lib.hid hp
  clear ha hp
  by_cases hk : knownS p = true
  · by_cases hz : redS p a = 0
    · have HF : Hid (invS p a = (0, 9)) := Lib.hid (by rw [invS, if_pos hk, if_pos hz])
      have hz2 : (redS p a == 0) = true := by simpa using hz
      clear hz
      go_enter Try.func64, Try.ntmps64
      go_wp2_with (first
        | (go_at_call 52; refine (r01_known _ _).mono ?_; rintro e w' ⟨rfl, rfl⟩)
        | (go_at_call 59; refine (r01_reduce _ _ _ HP.out HA.out).mono ?_; rintro e w' ⟨rfl, rfl⟩))
      go_ret2
      exact ⟨by rw [HF.out]; rfl, ⟨0, rfl⟩⟩
    · have HF : Hid (invS p a = (powS p a (p - 2).toNat, 0)) := Lib.hid (by rw [invS, if_pos hk, if_neg hz])
      have hz2 : (redS p a == 0) = false := by simpa using hz
      have hb : 2 ≤ p := by have := (known_pos hk).1; omega
      have hb2 : p < 18446744073709551616 := (known_pos hk).2
      obtain ⟨M, hM⟩ := Int.eq_ofNat_of_zero_le (show 0 ≤ p - 2 by omega)
      have HN : Hid (M < 18446744073709551616) := Lib.hid (by omega)
      rw [hM, Int.toNat_natCast] at HF
      have HM := Lib.hid hM
      clear hM
      clear hz
      go_enter Try.func64, Try.ntmps64
      go_wp2_with (first
        | (go_at_call 52; refine (r01_known _ _).mono ?_; rintro e w' ⟨rfl, rfl⟩)
        | (go_at_call 59; refine (r01_reduce _ _ _ HP.out HA.out).mono ?_; rintro e w' ⟨rfl, rfl⟩)
        | (go_at_call 67; try rw [HM.out]
           refine (r02_pow _ _ HP.out HA.out M _ HN.out).mono ?_; rintro e w' ⟨rfl, ⟨n, rfl⟩⟩))
      go_ret2
      exact ⟨by rw [HF.out]; rfl, ⟨_, rfl⟩⟩
  · have HF : Hid (invS p a = (0, 2)) := Lib.hid (by rw [invS, if_neg hk])
    have hk2 : knownS p = false := by simpa using hk
    clear hk
    go_enter Try.func64, Try.ntmps64
    go_wp2_with (go_at_call 52; refine (r01_known _ _).mono ?_; rintro e w' ⟨rfl, rfl⟩)
    go_ret2
    exact ⟨by rw [HF.out]; rfl, ⟨0, rfl⟩⟩
theorem r03_gen (p : Int) (w : World) :
    Calls Try.prog 77 #[.int .u64 p] w fun e w' => e = .returned (.int .u64 (genS p)) ∧ w' = w := by
  by_cases h0 : p = 18446744069414584321
  · subst h0
    have HF : Hid (genS 18446744069414584321 = 7) := Lib.hid rfl
    go_enter Try.func77, Try.ntmps77
    go_wp2
    go_ret
    exact ⟨by rw [HF.out]; rfl, rfl⟩
  · have f0 : (p == 18446744069414584321) = false := by simpa using h0
    by_cases h1 : p = 998244353
    · have HF : Hid (genS p = 3) := Lib.hid (by rw [genS, if_neg h0, if_pos h1])
      have f1 : (p == 998244353) = true := by simpa using h1
      clear h0 h1
      go_enter Try.func77, Try.ntmps77
      go_wp2
      go_ret
      exact ⟨by rw [HF.out]; rfl, rfl⟩
    · have f1 : (p == 998244353) = false := by simpa using h1
      by_cases h2 : p = 2013265921
      · have HF : Hid (genS p = 31) := Lib.hid (by rw [genS, if_neg h0, if_neg h1, if_pos h2])
        have f2 : (p == 2013265921) = true := by simpa using h2
        clear h0 h1 h2
        go_enter Try.func77, Try.ntmps77
        go_wp2
        go_ret
        exact ⟨by rw [HF.out]; rfl, rfl⟩
      · have HF : Hid (genS p = 0) := Lib.hid (by rw [genS, if_neg h0, if_neg h1, if_neg h2])
        have f2 : (p == 2013265921) = false := by simpa using h2
        clear h0 h1 h2
        go_enter Try.func77, Try.ntmps77
        go_wp2
        go_ret
        exact ⟨by rw [HF.out]; rfl, rfl⟩
theorem r03_may (p n : Int) (w : World) :
    Calls Try.prog 101 #[.int .u64 p, .int .i64 n] w fun e w' => e = .returned (.int .i64 (readyS p n)) ∧ w' = w := by
  by_cases hk : knownS p = true
  · by_cases h0 : n < 1
    · have HF : Hid (readyS p n = 1) := Lib.hid (by rw [readyS, if_pos hk, if_neg (by omega)])
      have f0 : decide (n < 1) = true := by simpa using h0
      go_enter Try.func101, Try.ntmps101
      go_wp2_with (go_at_call 52; refine (r01_known _ _).mono ?_; rintro e w' ⟨rfl, rfl⟩)
      go_ret
      exact ⟨by rw [HF.out]; rfl, rfl⟩
    · have f0 : decide (n < 1) = false := by simpa using h0
      by_cases h1 : 8192 < n
      · have HF : Hid (readyS p n = 1) := Lib.hid (by rw [readyS, if_pos hk, if_neg (by omega)])
        have f1 : decide (8192 < n) = true := by simpa using h1
        go_enter Try.func101, Try.ntmps101
        go_wp2_with (go_at_call 52; refine (r01_known _ _).mono ?_; rintro e w' ⟨rfl, rfl⟩)
        go_ret
        exact ⟨by rw [HF.out]; rfl, rfl⟩
      · have HF : Hid (readyS p n = 0) := Lib.hid (by rw [readyS, if_pos hk, if_pos (by omega)])
        have f1 : decide (8192 < n) = false := by simpa using h1
        go_enter Try.func101, Try.ntmps101
        go_wp2_with (go_at_call 52; refine (r01_known _ _).mono ?_; rintro e w' ⟨rfl, rfl⟩)
        go_ret
        exact ⟨by rw [HF.out]; rfl, rfl⟩
  · have HF : Hid (readyS p n = 2) := Lib.hid (by rw [readyS, if_neg hk])
    have hk2 : knownS p = false := by simpa using hk
    clear hk
    go_enter Try.func101, Try.ntmps101
    go_wp2_with (go_at_call 52; refine (r01_known _ _).mono ?_; rintro e w' ⟨rfl, rfl⟩)
    go_ret
    exact ⟨by rw [HF.out]; rfl, rfl⟩
end Go.Proofs.Ytkofhmiakfmcaaa.P
