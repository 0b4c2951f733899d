
/- The chapter's example of layer 4; the law FactorTimes, walked. Conditions: words of their kinds; the library's table lies as it was laid. -/
import Derived.Test.YtnlmmgcjhedjkaaDoorFac1
import Derived.Test.YtnlmmgcjhedjkaaDoorShapeB
namespace Go.Proofs.YtnlmmgcjhedjkaaDoor.P
open Go.RowKit
set_option linter.unusedVariables false
set_option linter.unusedSimpArgs false
theorem live04_calls (w : World) (hT : Tab w) : Calls Tryd.prog 20 #[] w fun e w' => e = .returned (.bool true) ∧ Below w.heap.size w w' := by
  have HF : Hid (facS 120 = ([4, 2, 3, 5], 0)) := Lib.hid (by decide +kernel)
  have HT := Lib.hid hT
  clear hT
  go_enter Tryd.func20, Tryd.ntmps20
  go_wp2_with fail
  refine (radices_calls 120 _ (by decide) HT.out).mono ?_
  rw [HF.out]
  rintro e w1 ⟨B, b, rfl, ho, hb⟩
  have HB := Lib.hid hb
  have HO := Lib.hid ho
  clear ho hb
  go_wp2_with fail
  have hb1 : Below w1.heap.size w1 (w1.alloc (.cells #[.int .i64 4, .int .i64 2, .int .i64 3, .int .i64 5] 3)) := (Below.refl _ _).alloc (Nat.le_refl _) _
  have hr1 : Row (w1.alloc (.cells #[.int .i64 4, .int .i64 2, .int .i64 3, .int .i64 5] 3)) (some ⟨w1.heap.size, 0, none⟩) (nums .i64 [4, 2, 3, 5]) := row_new w1 [.int .i64 4, .int .i64 2, .int .i64 3, .int .i64 5] 3
  generalize (w1.alloc (.cells #[.int .i64 4, .int .i64 2, .int .i64 3, .int .i64 5] 3)) = W1 at *
  refine (sameInts_calls _ _ _ _ [4, 2, 3, 5] [4, 2, 3, 5] _ ((HO.out.grown hb1).row) (by decide) hr1).mono ?_
  rintro e w2 ⟨rfl, ⟨q, rfl⟩⟩
  have HB2 : Hid (Below _ _ W1) := Lib.hid (blT HB.out hb1)
  clear hb1 hr1
  go_wp2
  go_ret
  exact ⟨by first | rfl | (simp; done), below_drewN HB2.out _⟩
theorem factorTimes_walk (n m : Int) (w : World) (hn : i64 n) (hm : i64 m) (hT : Tab w) :
    Calls Tryd.prog 4 #[.int .i64 n, .int .i64 m] w fun e w' => e = .returned (.bool true) ∧ Below w.heap.size w w' := by
  have HT := Lib.hid hT
  have HN := Lib.hid hn
  have HM := Lib.hid hm
  obtain ⟨n0, n1⟩ := hn
  obtain ⟨m0, m1⟩ := hm
  clear hT
  go_enter Tryd.func4, Tryd.ntmps4
  go_wp2_with fail
  refine (live04_calls _ HT.out).mono ?_
  rintro e w1 ⟨rfl, hb⟩
  have HB := Lib.hid hb
  have HT1 := Lib.hid (HT.out.below hb)
  clear hb HT
  by_cases hin : 1 ≤ n ∧ 1 ≤ m ∧ n ≤ 5000 ∧ m ≤ 5000
  case neg =>
    have HS1 : Hid (∀ k : Int, k ≤ 0 → smoothS k = false) := Lib.hid fun k hk => smooth_out (by omega)
    have HS2 : Hid (∀ k : Int, 5001 ≤ k → smoothS k = false) := Lib.hid fun k hk => smooth_out (by omega)
    have hcases : n < 1 ∨ (¬ n < 1 ∧ m < 1) ∨ (¬ n < 1 ∧ ¬ m < 1 ∧ 5000 < n) ∨ (¬ n < 1 ∧ ¬ m < 1 ∧ ¬ 5000 < n ∧ 5000 < m) := by omega
    have HD : Hid (∀ k : Int, i64 k → k ≤ 0 → ∀ w, Tab w → Calls Tryd.prog 22 #[.int .i64 k] w fun e w' => e = .returned (.bool false) ∧ Below w.heap.size w w') := Lib.hid fun k hk h0 w hT => by
      have := smooth_calls k w hk hT
      rw [HS1.out k h0] at this
      exact this
    have HE : Hid (∀ k : Int, i64 k → 5001 ≤ k → ∀ w, Tab w → Calls Tryd.prog 22 #[.int .i64 k] w fun e w' => e = .returned (.bool false) ∧ Below w.heap.size w w') := Lib.hid fun k hk h0 w hT => by
      have := smooth_calls k w hk hT
      rw [HS2.out k h0] at this
      exact this
    have hmin0 : min n 0 ≤ 0 := Int.min_le_right _ _
    have hmin1 : -9223372036854775808 ≤ min n 0 := by omega
    have hmax0 : 5001 ≤ max m 5001 := Int.le_max_right _ _
    have hmax1 : max m 5001 < 9223372036854775808 := by omega
    generalize hmn : min n 0 = mn at *
    generalize hmx : max m 5001 = mx at *
    clear hin
    rcases hcases with h | ⟨h1, h⟩ | ⟨h1, h2, h⟩ | ⟨h1, h2, h3, h⟩
    case' inl =>
      have f0 : decide (n < 1) = true := by simpa using h
    case' inr.inl =>
      have f0 : decide (n < 1) = false := by simpa using h1
      have f1 : decide (m < 1) = true := by simpa using h
    case' inr.inr.inl =>
      have f0 : decide (n < 1) = false := by simpa using h1
      have f1 : decide (m < 1) = false := by simpa using h2
      have f2 : decide (5000 < n) = true := by simpa using h
    case' inr.inr.inr =>
      have f0 : decide (n < 1) = false := by simpa using h1
      have f1 : decide (m < 1) = false := by simpa using h2
      have f2 : decide (5000 < n) = false := by simpa using h3
      have f3 : decide (5000 < m) = true := by simpa using h
    all_goals
      go_wp2_with fail
      refine (HD.out _ ⟨by omega, by omega⟩ (by omega) _ HT1.out).mono ?_
      rintro e w2 ⟨rfl, hb⟩
      have HB2 := Lib.hid (blT HB.out hb)
      have HT2 := Lib.hid (HT1.out.below hb)
      clear hb
      go_wp2_with fail
      refine (HE.out _ ⟨by omega, by omega⟩ (by omega) _ HT2.out).mono ?_
      rintro e w3 ⟨rfl, hb⟩
      have HB3 := Lib.hid (blT HB2.out hb)
      clear hb
      go_wp2
      go_ret
      exact ⟨by first | rfl | (simp; done), HB3.out⟩
  obtain ⟨hn1, hm1, hn5, hm5⟩ := hin
  have f0 : decide (n < 1) = false := by simp; omega
  have f1 : decide (m < 1) = false := by simp; omega
  have f2 : decide (5000 < n) = false := by simp; omega
  have f3 : decide (5000 < m) = false := by simp; omega
  have hp0 : 1 ≤ n * m := by have : 1 * 1 ≤ n * m := Int.mul_le_mul hn1 hm1 (by omega) (by omega); omega
  have hp1 : n * m ≤ 25000000 := by have : n * m ≤ 5000 * 5000 := Int.mul_le_mul hn5 hm5 (by omega) (by omega); omega
  have HSM : Hid (n * m ≤ 4096 → smoothS (n * m) = (smoothS n && smoothS m)) := Lib.hid fun h => by
    obtain ⟨N, rfl⟩ := Int.eq_ofNat_of_zero_le (show 0 ≤ n by omega)
    obtain ⟨M, rfl⟩ := Int.eq_ofNat_of_zero_le (show 0 ≤ m by omega)
    have h2 : N * M ≤ 4096 := Int.ofNat_le.1 (by rw [Int.natCast_mul]; exact h)
    have := smooth_mul (n := N) (m := M) (by omega) (by omega) h2
    rw [← this, Int.natCast_mul]
  generalize hv : n * m = v at *
  have hw1 : IntKind.i64.wrap v = v := wrapI (by omega) (by omega)
  have hw2 : wrap64 v = v := wrap64_id ⟨by omega, by omega⟩
  by_cases hbig : 4096 < v
  · have f4 : decide (4096 < v) = true := by simpa using hbig
    have HSV : Hid (smoothS v = false) := Lib.hid (smooth_out (by omega))
    clear hbig
    go_wp2_with fail
    refine (smooth_calls v _ ⟨by omega, by omega⟩ HT1.out).mono ?_
    rw [HSV.out]
    rintro e w2 ⟨rfl, hb⟩
    have HB2 := Lib.hid (blT HB.out hb)
    clear hb
    go_wp2
    go_ret
    exact ⟨by first | rfl | (simp; done), HB2.out⟩
  have f4 : decide (4096 < v) = false := by simpa using hbig
  have HSV := Lib.hid (HSM.out (by omega))
  go_wp2_with fail
  refine (smooth_calls v _ ⟨by omega, by omega⟩ HT1.out).mono ?_
  rw [HSV.out]
  rintro e w2 ⟨rfl, hb⟩
  have HB2 := Lib.hid (blT HB.out hb)
  have HT2 := Lib.hid (HT1.out.below hb)
  clear hb
  go_wp2_with fail
  refine (smooth_calls n _ HN.out HT2.out).mono ?_
  rintro e w3 ⟨rfl, hb⟩
  have HB3 := Lib.hid (blT HB2.out hb)
  have HT3 := Lib.hid (HT2.out.below hb)
  clear hb
  generalize smoothS n = s1 at *
  cases s1
  · go_wp2
    go_ret
    exact ⟨by first | rfl | (simp; done), HB3.out⟩
  · go_wp2_with fail
    refine (smooth_calls m _ HM.out HT3.out).mono ?_
    rintro e w4 ⟨rfl, hb⟩
    have HB4 := Lib.hid (blT HB3.out hb)
    clear hb
    generalize smoothS m = s2 at *
    cases s2
    all_goals
      go_wp2
      go_ret
      exact ⟨by first | rfl | (simp; done), HB4.out⟩
end Go.Proofs.YtnlmmgcjhedjkaaDoor.P
