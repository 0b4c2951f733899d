/- The laws PowerSums and PowerBack, walked. Conditions: words of their kinds. -/
import Derived.Test.YtkofhmiakfmcaaaPow1
namespace Go.Proofs.Ytkofhmiakfmcaaa.P
open Go.RowKit
set_option linter.unusedVariables false
set_option linter.unusedSimpArgs false
theorem powerSums_walk (p a b n m : Int) (w : World) (hp : U64 p) (ha : U64 a) (hb : U64 b) (hn : 0 ≤ n ∧ n < 4294967296) (hm : 0 ≤ m ∧ m < 4294967296) :
    Calls Try.prog 8 #[.int .u64 p, .int .u64 a, .int .u64 b, .int .u32 n, .int .u32 m] w fun e w' => e = .returned (.bool true) ∧ Below w.heap.size w w' := by
  have HA := Lib.hid ha
  have HB := Lib.hid hb
  have HP := Lib.hid hp
  clear ha hb hp
  obtain ⟨n0, n1⟩ := hn
  obtain ⟨m0, m1⟩ := hm
  have hmul0 : 0 ≤ n * m := Int.mul_nonneg n0 m0
  have hmul1 : n * m ≤ 18446744065119617025 := by
    have h1 : n * m ≤ 4294967295 * 4294967295 := Int.mul_le_mul (by omega) (by omega) m0 (by omega)
    omega
  have HN : Hid (U64 n) := Lib.hid ⟨n0, by omega⟩
  have HM : Hid (U64 m) := Lib.hid ⟨m0, by omega⟩
  have HNM : Hid (U64 (n + m)) := Lib.hid ⟨by omega, by omega⟩
  have HNX : Hid (U64 (n * m)) := Lib.hid ⟨hmul0, by omega⟩
  have f1 : (powS p a (n + m).toNat != mulS p (powS p a n.toNat) (powS p a m.toNat)) = false := by
    rw [Int.toNat_add n0 m0, powS_add]; simp
  have f2 : (powS p a (n * m).toNat == powS p (powS p a n.toNat) m.toNat) = true := by
    rw [Int.toNat_mul n0 m0, powS_mul]; simp
  have f3 : (powS p (mulS p a b) n.toNat == mulS p (powS p a n.toNat) (powS p b n.toNat)) = true := by
    rw [powS_base]; simp
  go_enter Try.func8, Try.ntmps8
  go_wp2_with (first
    | (go_at_call 46; refine (live02_calls _).mono ?_; rintro e w' ⟨rfl, ⟨q0, rfl⟩⟩)
    | (go_at_call 47; refine (pow_calls _ _ _ _ HP.out (by first | exact HA.out | exact HB.out | exact u64_redS _ _) (by first | exact HN.out | exact HM.out | exact HNM.out | exact HNX.out)).mono ?_; rintro e w' ⟨rfl, ⟨q1, rfl⟩⟩)
    | (go_at_call 44; refine (mul_calls _ _ _ _ HP.out (by first | exact HA.out | exact u64_redS _ _) (by first | exact HB.out | exact u64_redS _ _)).mono ?_; rintro e w' ⟨rfl, ⟨q2, rfl⟩⟩))
  all_goals
    go_ret
    exact ⟨by first | rfl | (simp; done), by repeat (first | exact Below.refl _ _ | refine below_drewN ?_ _)⟩
theorem inv_mul {p a : Int} (hk : knownS p = true) (ha : redS p a ≠ 0) : mulS p (powS p a (p - 2).toNat) a = 1 := by
  have h1 := (known_pos hk).1
  rw [powS_succ, show (p - 2).toNat + 1 = (p - 1).toNat from by omega]
  exact redS_fermat hk ha
theorem inv_ne {p a : Int} (hk : knownS p = true) (ha : redS p a ≠ 0) : redS p (powS p a (p - 2).toNat) ≠ 0 := by
  intro h
  have h1 := inv_mul hk ha
  unfold mulS at h1
  rw [← redS_mul_left, h, Int.zero_mul, redS_zero] at h1
  omega
theorem inv_inv {p a : Int} (hk : knownS p = true) (ha : redS p a ≠ 0) : powS p (powS p a (p - 2).toNat) (p - 2).toNat = redS p a := by
  have h1 := inv_mul hk ha
  have h2 := inv_mul hk (inv_ne hk ha)
  have h3 : redS p (powS p a (p - 2).toNat * powS p (powS p a (p - 2).toNat) (p - 2).toNat) = redS p (powS p a (p - 2).toNat * a) := by
    rw [Int.mul_comm]; exact h2.trans h1.symm
  have h4 := redS_cancel hk (inv_ne hk ha) h3
  rw [← h4]
  exact (redS_redS _ _).symm

theorem powerBack_walk (p a b : Int) (w : World) (hp : U64 p) (ha : U64 a) (hb : U64 b) :
    Calls Try.prog 9 #[.int .u64 p, .int .u64 a, .int .u64 b] w fun e w' => e = .returned (.bool true) ∧ Below w.heap.size w w' := by
  have HA := Lib.hid ha
  have HB := Lib.hid hb
  have HP := Lib.hid hp
  clear ha hb hp
  by_cases hk : knownS p = true
  · by_cases hz : redS p a = 0
    · have HF : Hid (invS p a = (0, 9)) := Lib.hid (by rw [invS, if_pos hk, if_pos hz])
      have hz2 : (redS p a == 0) = true := by simpa using hz
      clear hz
      go_enter Try.func9, Try.ntmps9
      go_wp2_with (first
        | (go_at_call 46; refine (live02_calls _).mono ?_; rintro e w' ⟨rfl, ⟨q0, rfl⟩⟩)
        | (go_at_call 48; refine (inv_calls _ _ _ HP.out HA.out).mono ?_; rw [HF.out]; rintro e w' ⟨rfl, ⟨q1, rfl⟩⟩)
        | (go_at_call 43; refine (known_calls _ _).mono ?_; rintro e w' ⟨rfl, rfl⟩)
        | (go_at_call 45; refine (reduce_calls _ _ _ HP.out (by first | exact HA.out | exact HB.out)).mono ?_; rintro e w' ⟨rfl, rfl⟩))
      all_goals
        go_ret
        exact ⟨by first | rfl | (simp; done), by repeat (first | exact Below.refl _ _ | refine below_drewN ?_ _)⟩
    · have HF : Hid (invS p a = (powS p a (p - 2).toNat, 0)) := Lib.hid (by rw [invS, if_pos hk, if_neg hz])
      have HF2 : Hid (invS p (powS p a (p - 2).toNat) = (redS p a, 0)) := Lib.hid (by rw [invS, if_pos hk, if_neg (inv_ne hk hz), inv_inv hk hz])
      have f1 : (mulS p (mulS p b a) (powS p a (p - 2).toNat) == redS p b) = true := by
        have h1 := inv_mul hk hz
        unfold mulS at *
        rw [redS_mul_left, Int.mul_assoc, Int.mul_comm a, ← redS_mul_right, h1, Int.mul_one]; simp
      have f2 : (powS p a (p - 1).toNat == 1) = true := by
        rw [show powS p a (p - 1).toNat = 1 from redS_fermat hk hz]; rfl
      have hb : 2 ≤ p := by have := (known_pos hk).1; omega
      have hb2 : p < 18446744073709551616 := (known_pos hk).2
      have HU : Hid (U64 (p - 1)) := Lib.hid ⟨by omega, by omega⟩
      clear hz
      go_enter Try.func9, Try.ntmps9
      go_wp2_with fail
      refine (live02_calls _).mono ?_
      rintro e w' ⟨rfl, ⟨q0, rfl⟩⟩
      go_wp2_with fail
      refine (inv_calls _ _ _ HP.out HA.out).mono ?_
      rw [HF.out]
      rintro e w' ⟨rfl, ⟨q1, rfl⟩⟩
      go_wp2_with fail
      refine (inv_calls _ _ _ HP.out (u64_powS _ _ _)).mono ?_
      rw [HF2.out]
      rintro e w' ⟨rfl, ⟨q2, rfl⟩⟩
      go_wp2_with (first
        | (go_at_call 45; refine (reduce_calls _ _ _ HP.out (by first | exact HA.out | exact HB.out)).mono ?_; rintro e w' ⟨rfl, rfl⟩)
        | (go_at_call 44; refine (mul_calls _ _ _ _ HP.out (by first | exact HB.out | exact u64_redS _ _) (by first | exact HA.out | exact u64_redS _ _)).mono ?_; rintro e w' ⟨rfl, ⟨q3, rfl⟩⟩)
        | (go_at_call 47; refine (pow_calls _ _ _ _ HP.out HA.out HU.out).mono ?_; rintro e w' ⟨rfl, ⟨q1, rfl⟩⟩))
      all_goals
        go_ret
        exact ⟨by first | rfl | (simp; done) | simpa using f2, by repeat (first | exact Below.refl _ _ | refine below_drewN ?_ _)⟩
  · have HF : Hid (invS p a = (0, 2)) := Lib.hid (by rw [invS, if_neg hk])
    have hz2 : (redS p a == 0) = true := by rw [redS_not hk]; rfl
    have hk2 : knownS p = false := by simpa using hk
    clear hk
    go_enter Try.func9, Try.ntmps9
    go_wp2_with (first
      | (go_at_call 46; refine (live02_calls _).mono ?_; rintro e w' ⟨rfl, ⟨q0, rfl⟩⟩)
      | (go_at_call 48; refine (inv_calls _ _ _ HP.out HA.out).mono ?_; rw [HF.out]; rintro e w' ⟨rfl, ⟨q1, rfl⟩⟩)
      | (go_at_call 43; refine (known_calls _ _).mono ?_; rintro e w' ⟨rfl, rfl⟩)
      | (go_at_call 45; refine (reduce_calls _ _ _ HP.out (by first | exact HA.out | exact HB.out)).mono ?_; rintro e w' ⟨rfl, rfl⟩))
    all_goals
      go_ret
      exact ⟨by first | rfl | (simp; done), by repeat (first | exact Below.refl _ _ | refine below_drewN ?_ _)⟩
end Go.Proofs.Ytkofhmiakfmcaaa.P
