/- The contract of package geom's Sum, and sums of powers plainly. Conditions: words of their kinds. -/
import Derived.Test.YtkofhmiakfmcaaaRootP
namespace Go.Proofs.Ytkofhmiakfmcaaa.P
open Go.RowKit
set_option linter.unusedVariables false
set_option linter.unusedSimpArgs false
theorem geoS_add (p z : Int) (a : Nat) : ∀ b, geoS p z (a + b) = addS p (geoS p z a) (mulS p (powS p z a) (geoS p z b))
  | 0 => by
    unfold addS mulS
    rw [geoS, Int.mul_zero, redS_zero, Int.add_zero, geoS_red]; rfl
  | b + 1 => by
    rw [show a + (b + 1) = (a + b) + 1 from rfl, geoS, geoS_add p z a b, geoS, powS_add]
    unfold addS mulS
    simp only [redS_add_left, redS_add_right, redS_mul_left, redS_mul_right]
    rw [Int.mul_add, Int.add_assoc]
theorem geoS_succ (p z : Int) (k : Nat) : geoS p z (k + 1) = addS p (mulS p (geoS p z k) z) 1 := by
  rw [Nat.add_comm, geoS_add p z 1 k, powS_one]
  have h1 : geoS p z 1 = redS p 1 := by
    show addS p 0 (powS p z 0) = _
    unfold addS
    rw [powS_zero, Int.zero_add, redS_redS]
  rw [h1]
  unfold addS mulS
  simp only [redS_add_left, redS_add_right, redS_mul_left, redS_mul_right]
  rw [Int.add_comm 1, Int.mul_comm]
theorem geoS_double (p z : Int) (D : Nat) : addS p (geoS p z D) (mulS p (powS p z D) (geoS p z D)) = geoS p z (2 * D) := by
  rw [Nat.two_mul, geoS_add]
/-- What Sum tells. -/
def sumS (p z n : Int) : Int × Int := if knownS p then (if 0 ≤ n ∧ n ≤ 65536 then (geoS p z n.toNat, 0) else (0, 1)) else (0, 2)
theorem wraps_i64 (n : Int) (h₀ : 0 ≤ n) (h₁ : n < 2 ^ 63) : IntKind.i64.wrap n = n := by rw [IntKind.wrap_i64]; omega
theorem and_one_i64 {x : Int} (h0 : 0 ≤ x) (h1 : x < 9223372036854775808) : Go.bits .and .i64 x 1 = x % 2 :=
  bits_mask .i64 63 (by decide) wraps_i64 1 (by decide) x h0 h1
theorem sum_calls (p z n : Int) (w : World) (hp : U64 p) (hz : U64 z) :
    Calls Try.prog 70 #[.int .u64 p, .int .u64 z, .int .i64 n] w fun e w' => e = .returned (.tuple #[.int .u64 (sumS p z n).1, .int .i64 (sumS p z n).2]) ∧ Drawn0 w w' := by
  have HZ := Lib.hid hz
  have HP := Lib.hid hp
  clear hz hp
  by_cases hk : knownS p = true
  · by_cases hr : 0 ≤ n ∧ n ≤ 65536
    · obtain ⟨r0, r1⟩ := hr
      obtain ⟨m, rfl⟩ := Int.eq_ofNat_of_zero_le r0
      have HF : Hid (sumS p z m = (geoS p z m, 0)) := Lib.hid (by rw [sumS, if_pos hk, if_pos ⟨r0, r1⟩, Int.toNat_natCast])
      have H1 : Hid (powS p z 0 = 1) := Lib.hid (by rw [powS_zero, one_red hk])
      obtain ⟨hb1, hb2⟩ := bitLen_lt m (by omega)
      have HB := Lib.hid hb1
      have f0 : decide ((m : Int) < 0) = false := by simp
      have f1 : decide (65536 < (m : Int)) = false := by simp; omega
      have hm : m ≤ 65536 := by omega
      clear hb1 r0 r1
      go_enter Try.func70, Try.ntmps70
      go_wp2_with (first
        | (go_at_call 43; refine (known_calls _ _).mono ?_; rintro e w' ⟨rfl, rfl⟩)
        | (go_at_call 100; refine (Try.bits_Len _ _ (by omega) (by omega)).mono ?_; rintro e w' ⟨rfl, rfl⟩; rw [Int.toNat_natCast]))
      go_loopw [8, 9, 10] (fun s o i wr => ∃ q : Int, -1 ≤ q ∧ q ≤ 63 ∧ i = .int .i64 q ∧ s = .int .u64 (geoS p z (m / 2 ^ (q + 1).toNat)) ∧ o = .int .u64 (powS p z (m / 2 ^ (q + 1).toNat)) ∧ Drawn0 w' wr) (fun _ _ i _ => (intOf i + 1).toNat)
      case atStart => exact ⟨(Lib.bitLen m : Int) - 1, by omega, by omega, rfl, by
        rw [show ((Lib.bitLen m : Int) - 1 + 1).toNat = Lib.bitLen m from by omega, Nat.div_eq_of_lt HB.out]; rfl, by
        rw [show ((Lib.bitLen m : Int) - 1 + 1).toNat = Lib.bitLen m from by omega, Nat.div_eq_of_lt HB.out, H1.out], ⟨0, rfl⟩⟩
      case round =>
        obtain ⟨q, hq0, hq1, rfl, rfl, rfl, ⟨n, rfl⟩⟩ := hrel
        by_cases hlt : 0 ≤ q
        · have hs : (m : Int) / 2 ^ q.toNat = ((m / 2 ^ q.toNat : Nat) : Int) := by simp
          have hlt2 : m / 2 ^ q.toNat ≤ 65536 := Nat.le_trans (Nat.div_le_self _ _) hm
          have hbit := bit_of m q.toNat
          rw [show q.toNat + 1 = (q + 1).toNat from by omega] at hbit
          have HQ : Hid ((q - 1 + 1).toNat = q.toNat) := Lib.hid (by omega)
          generalize hB : m / 2 ^ q.toNat = B at *
          generalize hD : m / 2 ^ (q + 1).toNat = D at *
          have HB2 := Lib.hid hB
          have hand : Go.bits .and .i64 (B : Int) 1 = (B : Int) % 2 := and_one_i64 (by omega) (by omega)
          have HX1 : Hid (addS p (geoS p z D) (mulS p (powS p z D) (geoS p z D)) = geoS p z (2 * D)) := Lib.hid (geoS_double p z D)
          have HX2 : Hid (mulS p (powS p z D) (powS p z D) = powS p z (2 * D)) := Lib.hid (powS_double p z D)
          clear hB hD
          by_cases hb1 : B % 2 = 1
          · have hb2 : ((B : Int) % 2 == 1) = true := by rw [beq_iff_eq]; omega
            have HX3 : Hid (addS p (mulS p (geoS p z (2 * D)) z) 1 = geoS p z B) := Lib.hid (by
              rw [← geoS_succ]; congr 1; omega)
            have HX4 : Hid (mulS p (powS p z (2 * D)) z = powS p z B) := Lib.hid (by
              rw [powS_succ]; congr 1; omega)
            clear hbit hb1
            go_wp2_with fail
            refine (mul_calls _ _ _ _ HP.out (u64_powS _ _ _) (u64_geoS _ _ _)).mono ?_
            rintro e w2 ⟨rfl, ⟨n2, rfl⟩⟩
            go_wp2_with fail
            refine (add_calls _ _ _ _ HP.out (u64_geoS _ _ _) (u64_mulS _ _ _)).mono ?_
            rintro e w2 ⟨rfl, rfl⟩
            rw [HX1.out]
            go_wp2_with fail
            refine (mul_calls _ _ _ _ HP.out (u64_powS _ _ _) (u64_powS _ _ _)).mono ?_
            rintro e w2 ⟨rfl, ⟨n3, rfl⟩⟩
            rw [HX2.out]
            go_wp2_with fail
            refine (mul_calls _ _ _ _ HP.out (u64_geoS _ _ _) HZ.out).mono ?_
            rintro e w2 ⟨rfl, ⟨n4, rfl⟩⟩
            go_wp2_with fail
            refine (add_calls _ _ _ _ HP.out (u64_mulS _ _ _) (by decide)).mono ?_
            rintro e w2 ⟨rfl, rfl⟩
            rw [HX3.out]
            go_wp2_with fail
            refine (mul_calls _ _ _ _ HP.out (u64_powS _ _ _) HZ.out).mono ?_
            rintro e w2 ⟨rfl, ⟨n5, rfl⟩⟩
            rw [HX4.out]
            go_wp2_with fail
            go_roundw
            case rel => exact ⟨q - 1, by omega, by omega, rfl, by rw [HQ.out, HB2.out], by rw [HQ.out, HB2.out], ⟨_, rfl⟩⟩
            case measure => simp [intOf]; omega
          · have hb2 : ((B : Int) % 2 == 1) = false := by rw [beq_eq_false_iff_ne]; omega
            have hBD : 2 * D = B := by omega
            clear hbit hb1
            rw [hBD] at HX1 HX2
            go_wp2_with fail
            refine (mul_calls _ _ _ _ HP.out (u64_powS _ _ _) (u64_geoS _ _ _)).mono ?_
            rintro e w2 ⟨rfl, ⟨n2, rfl⟩⟩
            go_wp2_with fail
            refine (add_calls _ _ _ _ HP.out (u64_geoS _ _ _) (u64_mulS _ _ _)).mono ?_
            rintro e w2 ⟨rfl, rfl⟩
            rw [HX1.out]
            go_wp2_with fail
            refine (mul_calls _ _ _ _ HP.out (u64_powS _ _ _) (u64_powS _ _ _)).mono ?_
            rintro e w2 ⟨rfl, ⟨n3, rfl⟩⟩
            rw [HX2.out]
            go_wp2_with fail
            go_roundw
            case rel => exact ⟨q - 1, by omega, by omega, rfl, by rw [HQ.out, HB2.out], by rw [HQ.out, HB2.out], ⟨_, rfl⟩⟩
            case measure => simp [intOf]; omega
        · have HE : Hid (geoS p z (m / 2 ^ (q + 1).toNat) = geoS p z m) := Lib.hid (by rw [show (q + 1).toNat = 0 from by omega]; simp)
          go_wp2
          go_ret2
          exact ⟨by rw [HF.out, ← HE.out]; rfl, ⟨_, rfl⟩⟩
    · have HF : Hid (sumS p z n = (0, 1)) := Lib.hid (by rw [sumS, if_pos hk, if_neg hr])
      by_cases h0 : n < 0
      · have f0 : decide (n < 0) = true := by simpa using h0
        go_enter Try.func70, Try.ntmps70
        go_wp2_with (go_at_call 43; refine (known_calls _ _).mono ?_; rintro e w' ⟨rfl, rfl⟩)
        go_ret2
        exact ⟨by rw [HF.out]; rfl, ⟨0, rfl⟩⟩
      · have f0 : decide (n < 0) = false := by simpa using h0
        have f1 : decide (65536 < n) = true := by simp; omega
        go_enter Try.func70, Try.ntmps70
        go_wp2_with (go_at_call 43; refine (known_calls _ _).mono ?_; rintro e w' ⟨rfl, rfl⟩)
        go_ret2
        exact ⟨by rw [HF.out]; rfl, ⟨0, rfl⟩⟩
  · have HF : Hid (sumS p z n = (0, 2)) := Lib.hid (by rw [sumS, if_neg hk])
    have hk2 : knownS p = false := by simpa using hk
    clear hk
    go_enter Try.func70, Try.ntmps70
    go_wp2_with (go_at_call 43; refine (known_calls _ _).mono ?_; rintro e w' ⟨rfl, rfl⟩)
    go_ret2
    exact ⟨by rw [HF.out]; rfl, ⟨0, rfl⟩⟩
theorem live08_calls (w : World) : Calls Try.prog 69 #[] w fun e w' => e = .returned (.bool true) ∧ Drawn0 w w' := by
  have HF : Hid (sumS 998244353 2 4 = (15, 0)) := Lib.hid (by decide +kernel)
  go_enter Try.func69, Try.ntmps69
  go_wp2_with fail
  refine (sum_calls _ _ _ _ (by decide) (by decide)).mono ?_
  rw [HF.out]
  rintro e w' ⟨rfl, ⟨n, rfl⟩⟩
  go_wp2_with fail
  go_ret
  exact ⟨rfl, ⟨_, rfl⟩⟩
theorem geomSteps_walk (p z n m : Int) (w : World) (hp : U64 p) (hz : U64 z) (hn : 0 ≤ n ∧ n < 256) (hm : 0 ≤ m ∧ m < 256) :
    Calls Try.prog 18 #[.int .u64 p, .int .u64 z, .int .u8 n, .int .u8 m] w fun e w' => e = .returned (.bool true) ∧ Below w.heap.size w w' := by
  have HP := Lib.hid hp
  have HZ := Lib.hid hz
  clear hp hz
  obtain ⟨n0, n1⟩ := hn
  obtain ⟨m0, m1⟩ := hm
  by_cases hk : knownS p = true
  · obtain ⟨N, rfl⟩ := Int.eq_ofNat_of_zero_le n0
    obtain ⟨M, rfl⟩ := Int.eq_ofNat_of_zero_le m0
    have hN : N ≤ 255 := by omega
    have hM : M ≤ 255 := by omega
    have HN : Hid (U64 (N : Int)) := Lib.hid ⟨by omega, by omega⟩
    have S : ∀ K : Nat, K ≤ 65536 → sumS p z K = (geoS p z K, 0) := fun K hK => by rw [sumS, if_pos hk, if_pos ⟨by omega, by omega⟩, Int.toNat_natCast]
    have S1 := Lib.hid (S N (by omega))
    have S2 : Hid (sumS p z ((N : Int) + 1) = (geoS p z (N + 1), 0)) := Lib.hid (S (N + 1) (by omega))
    have S3 := Lib.hid (S M (by omega))
    have S4 : Hid (sumS p z ((N : Int) + (M : Int)) = (geoS p z (N + M), 0)) := Lib.hid (by have := S (N + M) (by omega); rwa [Int.natCast_add] at this)
    have HG1 : Hid (addS p (mulS p (geoS p z N) z) 1 = geoS p z (N + 1)) := Lib.hid (geoS_succ p z N).symm
    have HG2 : Hid (mulS p (geoS p z N) (subS p z 1) = subS p (powS p z N) 1) := Lib.hid (by
      unfold mulS subS powS
      rw [redS_mul_right, geoS_mul, redS_sub_left])
    have HG3 : Hid (addS p (geoS p z N) (mulS p (powS p z N) (geoS p z M)) = geoS p z (N + M)) := Lib.hid (geoS_add p z N M).symm
    clear S hk n0 n1 m0 m1
    go_enter Try.func18, Try.ntmps18
    go_wp2_with fail
    refine (live08_calls _).mono ?_
    rintro e w1 ⟨rfl, ⟨q1, rfl⟩⟩
    go_wp2_with fail
    refine (sum_calls _ _ _ _ HP.out HZ.out).mono ?_
    rw [S1.out]
    rintro e w1 ⟨rfl, ⟨q2, rfl⟩⟩
    go_wp2_with fail
    refine (sum_calls _ _ _ _ HP.out HZ.out).mono ?_
    rw [S2.out]
    rintro e w1 ⟨rfl, ⟨q3, rfl⟩⟩
    go_wp2_with fail
    refine (sum_calls _ _ _ _ HP.out HZ.out).mono ?_
    rw [S3.out]
    rintro e w1 ⟨rfl, ⟨q4, rfl⟩⟩
    go_wp2_with fail
    refine (sum_calls _ _ _ _ HP.out HZ.out).mono ?_
    rw [S4.out]
    rintro e w1 ⟨rfl, ⟨q5, rfl⟩⟩
    go_wp2_with fail
    refine (pow_calls _ _ _ _ HP.out HZ.out HN.out).mono ?_
    rw [Int.toNat_natCast]
    rintro e w1 ⟨rfl, ⟨q6, rfl⟩⟩
    go_wp2_with fail
    refine (mul_calls _ _ _ _ HP.out (u64_geoS _ _ _) HZ.out).mono ?_
    rintro e w1 ⟨rfl, ⟨q7, rfl⟩⟩
    go_wp2_with fail
    refine (add_calls _ _ _ _ HP.out (u64_mulS _ _ _) (by decide)).mono ?_
    rintro e w1 ⟨rfl, rfl⟩
    rw [HG1.out]
    go_wp2_with fail
    refine (sub_calls _ _ _ _ HP.out HZ.out (by decide)).mono ?_
    rintro e w1 ⟨rfl, rfl⟩
    go_wp2_with fail
    refine (mul_calls _ _ _ _ HP.out (u64_geoS _ _ _) (u64_subS _ _ _)).mono ?_
    rintro e w1 ⟨rfl, ⟨q8, rfl⟩⟩
    rw [HG2.out]
    go_wp2_with fail
    refine (sub_calls _ _ _ _ HP.out (u64_powS _ _ _) (by decide)).mono ?_
    rintro e w1 ⟨rfl, rfl⟩
    go_wp2_with fail
    refine (mul_calls _ _ _ _ HP.out (u64_powS _ _ _) (u64_geoS _ _ _)).mono ?_
    rintro e w1 ⟨rfl, ⟨q9, rfl⟩⟩
    go_wp2_with fail
    refine (add_calls _ _ _ _ HP.out (u64_geoS _ _ _) (u64_mulS _ _ _)).mono ?_
    rintro e w1 ⟨rfl, rfl⟩
    rw [HG3.out]
    go_wp2
    go_ret
    exact ⟨by first | rfl | (simp; done), by repeat (first | exact Below.refl _ _ | refine below_drewN ?_ _)⟩
  · have S : ∀ K : Int, sumS p z K = (0, 2) := fun K => by rw [sumS, if_neg hk]
    have HS := Lib.hid S
    have hk2 : knownS p = false := by simpa using hk
    clear S hk
    go_enter Try.func18, Try.ntmps18
    go_wp2_with fail
    refine (live08_calls _).mono ?_
    rintro e w1 ⟨rfl, ⟨q1, rfl⟩⟩
    go_wp2_with (first
      | (go_at_call 70; refine (sum_calls _ _ _ _ HP.out HZ.out).mono ?_; rw [HS.out]; rintro e w1 ⟨rfl, ⟨q2, rfl⟩⟩)
      | (go_at_call 43; refine (known_calls _ _).mono ?_; rintro e w' ⟨rfl, rfl⟩))
    go_ret
    exact ⟨by first | rfl | (simp; done), by repeat (first | exact Below.refl _ _ | refine below_drewN ?_ _)⟩
end Go.Proofs.Ytkofhmiakfmcaaa.P
