/- The laws RootSteps, RootSum and RootOrder, walked. Conditions: words of their kinds. -/
import Derived.Test.YtkofhmiakfmcaaaRootP
namespace Go.Proofs.Ytkofhmiakfmcaaa.P
open Go.RowKit
set_option linter.unusedVariables false
set_option linter.unusedSimpArgs false
theorem live03_calls (w : World) : Calls Try.prog 61 #[] w fun e w' => e = .returned (.bool true) ∧ Below w.heap.size w w' := by
  have HF : Hid (rootS 998244353 2 = (998244352, 0)) := Lib.hid (by
    have h2 := powS_pm (P := 998244353) (a := 3) (n := 499122176) rfl (by decide)
    have h3 : pm 998244353 64 3 499122176 = 998244352 := by decide +kernel
    rw [h3] at h2
    rw [rootS, if_pos (by rfl), if_pos (by rfl)]
    exact Prod.ext h2 rfl)
  have HG : Hid (genS 18446744069414584321 = 7) := Lib.hid rfl
  have HU : Hid (U64 998244353) := Lib.hid (by decide)
  go_enter Try.func61, Try.ntmps61
  go_wp2_with (first
    | (go_at_call 62; refine (root_calls _ _ _ HU.out).mono ?_; rw [HF.out]; rintro e w' ⟨rfl, hb⟩)
    | (go_at_call 76; refine (gen_calls _ _).mono ?_; rw [HG.out]; rintro e w2 ⟨rfl, hb2⟩))
  go_ret
  exact ⟨rfl, by first | exact hb.trans (hb2.mono hb.size) | exact hb⟩
theorem rootSteps_walk (p n m : Int) (w : World) (hp : U64 p) (hn : 0 ≤ n ∧ n < 256) (hm : 0 ≤ m ∧ m < 256) :
    Calls Try.prog 14 #[.int .u64 p, .int .u8 n, .int .u8 m] w fun e w' => e = .returned (.bool true) ∧ Below w.heap.size w w' := by
  have HP := Lib.hid hp
  obtain ⟨n0, n1⟩ := hn
  obtain ⟨m0, m1⟩ := hm
  obtain ⟨N, rfl⟩ := Int.eq_ofNat_of_zero_le n0
  obtain ⟨M, rfl⟩ := Int.eq_ofNat_of_zero_le m0
  have hmul0 : (0 : Int) ≤ (N : Int) * M := Int.mul_nonneg n0 m0
  have hmul1 : (N : Int) * M ≤ 65025 := by
    have h1 : (N : Int) * M ≤ 255 * 255 := Int.mul_le_mul (by omega) (by omega) m0 (by omega)
    omega
  have HM : Hid (U64 (M : Int)) := Lib.hid ⟨by omega, by omega⟩
  have HU := Lib.hid (u64_rootS p ((N : Int) * M))
  by_cases hz : (rootS p ((N : Int) * M)).2 = 0
  · obtain ⟨K, hK, hR⟩ := rootS_is hz
    rw [show (N : Int) * M = ((N * M : Nat) : Int) from by simp] at hK hR
    have hK2 : K = N * M := by omega
    subst hK2
    have HB : Hid (rootS p N = (powS p (rootS p ((N : Int) * M)).1 M, 0)) := Lib.hid (by
      have := hR.part.rootS
      simpa using this)
    have HZ := Lib.hid hz
    clear hz hK hR hp
    go_enter Try.func14, Try.ntmps14
    go_wp2_with fail
    refine (live03_calls _).mono ?_
    rintro e w1 ⟨rfl, hb1⟩
    go_wp2_with fail
    refine (root_calls _ _ _ HP.out).mono ?_
    rw [HZ.out]
    rintro e w2 ⟨rfl, hb2⟩
    go_wp2_with fail
    refine (root_calls _ _ _ HP.out).mono ?_
    rw [HB.out]
    rintro e w3 ⟨rfl, hb3⟩
    generalize hx : (rootS p ((N : Int) * M)).1 = x at *
    go_wp2_with (go_at_call 47; refine (pow_calls _ _ _ _ HP.out HU.out HM.out).mono ?_; rw [Int.toNat_natCast]; rintro e w4 ⟨rfl, ⟨q1, rfl⟩⟩)
    have hb := (hb1.trans (hb2.mono hb1.size)).trans (hb3.mono (Nat.le_trans hb1.size hb2.size))
    go_ret
    exact ⟨by first | rfl | (simp; done), by first | exact hb | exact below_drewN hb _⟩
  · have HZ : Hid ((rootS p ((N : Int) * M)).1 = 0) := Lib.hid (rootS_no hz)
    have f0 : ((rootS p ((N : Int) * M)).2 != 0) = true := by simpa using hz
    clear hz hp
    go_enter Try.func14, Try.ntmps14
    go_wp2_with fail
    refine (live03_calls _).mono ?_
    rintro e w1 ⟨rfl, hb1⟩
    go_wp2_with fail
    refine (root_calls _ _ _ HP.out).mono ?_
    rw [HZ.out]
    rintro e w2 ⟨rfl, hb2⟩
    go_wp2_with fail
    refine (root_calls _ _ _ HP.out).mono ?_
    rintro e w3 ⟨rfl, hb3⟩
    go_wp2
    have hb := (hb1.trans (hb2.mono hb1.size)).trans (hb3.mono (Nat.le_trans hb1.size hb2.size))
    go_ret
    exact ⟨by first | rfl | (simp; done), hb⟩
theorem rootOrder_walk (p n m : Int) (w : World) (hp : U64 p) (hn : i64 n) (hm : i64 m) :
    Calls Try.prog 20 #[.int .u64 p, .int .i64 n, .int .i64 m] w fun e w' => e = .returned (.bool true) ∧ Below w.heap.size w w' := by
  have HP := Lib.hid hp
  clear hn hm
  by_cases hz : (rootS p n).2 = 0
  · obtain ⟨K, rfl, hR⟩ := rootS_is hz
    generalize hx : (rootS p K).1 = x at *
    have HR : Hid (rootS p K = (x, 0)) := Lib.hid (Prod.ext hx hz)
    have HX : Hid (U64 x) := Lib.hid (by rw [← hx]; exact u64_rootS _ _)
    have HB := Lib.hid hR.back
    have H1 := Lib.hid hR.orderS
    have H2 := Lib.hid hR.order_back
    have f1 : ((orderS p x m).2 != 0 || (orderS p x m).1 == (m == (K : Int))) = true := by
      by_cases h0 : (orderS p x m).2 = 0
      · rw [hR.order h0]
        by_cases h1 : m = (K : Int) <;> simp [h1]
      · simp [h0]
    have f2 : (mulS p x (powS p x (p - 2).toNat) == 1) = true := by rw [hR.mul_back]; rfl
    clear hz hx hR hp
    generalize hv : powS p x (p - 2).toNat = v at *
    have HV : Hid (U64 v) := Lib.hid (by rw [← hv]; exact u64_powS _ _ _)
    clear hv
    go_enter Try.func20, Try.ntmps20
    go_wp2_with fail
    refine (live03_calls _).mono ?_
    rintro e w1 ⟨rfl, hb1⟩
    go_wp2_with fail
    refine (root_calls _ _ _ HP.out).mono ?_
    rw [HR.out]
    rintro e w2 ⟨rfl, hb2⟩
    go_wp2_with fail
    refine (back_calls _ _ _ HP.out).mono ?_
    rw [HB.out]
    rintro e w3 ⟨rfl, hb3⟩
    go_wp2_with fail
    refine (order_calls _ _ _ _ HP.out HX.out).mono ?_
    rw [H1.out]
    rintro e w4 ⟨rfl, ⟨q1, rfl⟩⟩
    go_wp2_with fail
    refine (order_calls _ _ _ _ HP.out HV.out).mono ?_
    rw [H2.out]
    rintro e w5 ⟨rfl, ⟨q2, rfl⟩⟩
    go_wp2_with fail
    refine (order_calls _ _ _ _ HP.out HX.out).mono ?_
    generalize (orderS p x m).1 = b1 at *
    generalize (orderS p x m).2 = b2 at *
    rintro e w6 ⟨rfl, ⟨q3, rfl⟩⟩
    have hb := (hb1.trans (hb2.mono hb1.size)).trans (hb3.mono (Nat.le_trans hb1.size hb2.size))
    have HBB := Lib.hid hb
    clear hb1 hb2 hb3 hb
    by_cases hb2 : b2 = 0
    · subst hb2
      have f3 : (b1 == (m == (K : Int))) = true := by simpa using f1
      clear f1
      go_wp2_with (go_at_call 44; refine (mul_calls _ _ _ _ HP.out HX.out HV.out).mono ?_; rintro e w2 ⟨rfl, ⟨n2, rfl⟩⟩)
      all_goals
        go_ret
        exact ⟨by first | rfl | (simp; done), by repeat (first | exact HBB.out | refine below_drewN ?_ _)⟩
    · have f3 : (b2 != 0) = true := by simpa using hb2
      clear f1 hb2
      go_wp2_with (go_at_call 44; refine (mul_calls _ _ _ _ HP.out HX.out HV.out).mono ?_; rintro e w2 ⟨rfl, ⟨n2, rfl⟩⟩)
      all_goals
        go_ret
        exact ⟨by first | rfl | (simp; done), by repeat (first | exact HBB.out | refine below_drewN ?_ _)⟩
  · have HZ : Hid ((rootS p n).1 = 0) := Lib.hid (rootS_no hz)
    have f0 : ((rootS p n).2 != 0) = true := by simpa using hz
    clear hz hp
    go_enter Try.func20, Try.ntmps20
    go_wp2_with fail
    refine (live03_calls _).mono ?_
    rintro e w1 ⟨rfl, hb1⟩
    go_wp2_with fail
    refine (root_calls _ _ _ HP.out).mono ?_
    rw [HZ.out]
    rintro e w2 ⟨rfl, hb2⟩
    go_wp2
    have hb := hb1.trans (hb2.mono hb1.size)
    go_ret
    exact ⟨by first | rfl | (simp; done), hb⟩
end Go.Proofs.Ytkofhmiakfmcaaa.P
