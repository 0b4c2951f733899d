/- The law RootSum, walked. Conditions: words of their kinds. -/
import Derived.Test.YtkofhmiakfmcaaaLawRoot
namespace Go.Proofs.Ytkofhmiakfmcaaa.P
open Go.RowKit
set_option linter.unusedVariables false
set_option linter.unusedSimpArgs false
theorem rootSum_walk (p n k : Int) (w : World) (hp : U64 p) (hn : 0 ≤ n ∧ n < 256) (hk : 0 ≤ k ∧ k < 65536) :
    Calls Try.prog 15 #[.int .u64 p, .int .u8 n, .int .u16 k] w fun e w' => e = .returned (.bool true) ∧ Below w.heap.size w w' := by
  have HP := Lib.hid hp
  obtain ⟨n0, n1⟩ := hn
  obtain ⟨k0, k1⟩ := hk
  obtain ⟨N, rfl⟩ := Int.eq_ofNat_of_zero_le n0
  obtain ⟨K, rfl⟩ := Int.eq_ofNat_of_zero_le k0
  have HK : Hid (U64 (K : Int)) := Lib.hid ⟨by omega, by omega⟩
  have hN : N ≤ 255 := by omega
  have hK : K ≤ 65535 := by omega
  by_cases hz : (rootS p N).2 = 0
  · obtain ⟨N', hN', hR⟩ := rootS_is hz
    have hN2 : N' = N := by omega
    subst hN2
    have hN0 : 1 ≤ N' := hR.n1
    generalize hw : (rootS p N').1 = W at *
    have HR : Hid (rootS p N' = (W, 0)) := Lib.hid (Prod.ext hw hz)
    have HW : Hid (U64 W) := Lib.hid (by rw [← hw]; exact u64_rootS _ _)
    generalize hX : powS p W K = X at *
    have HX : Hid (U64 X) := Lib.hid (by rw [← hX]; exact u64_powS _ _ _)
    have HXE := Lib.hid hX
    have H1 : Hid (powS p X 0 = 1) := Lib.hid (by rw [powS_zero, one_red hR.known])
    clear n0 n1 k0 k1 hp hN' hz hw
    go_enter Try.func15, Try.ntmps15
    go_wp2_with fail
    refine (live03_calls _).mono ?_
    rintro e w1 ⟨rfl, hb1⟩
    go_wp2_with fail
    refine (root_calls _ _ _ HP.out).mono ?_
    rw [HR.out]
    rintro e w2 ⟨rfl, hb2⟩
    go_wp2_with fail
    refine (pow_calls _ _ _ _ HP.out HW.out HK.out).mono ?_
    rw [Int.toNat_natCast, HXE.out]
    rintro e w3 ⟨rfl, ⟨q1, rfl⟩⟩
    have HB : Hid (Below w.heap.size w (w2.drewN q1)) := Lib.hid (below_drewN (hb1.trans (hb2.mono hb1.size)) _)
    generalize w2.drewN q1 = w3 at *
    have HRR := Lib.hid hR
    clear hb1 hb2 hX hR
    go_wp2
    go_loopw [10, 11, 31] (fun s y i wr => ∃ I : Nat, I ≤ N' ∧ s = .int .u64 (geoS p X I) ∧ y = .int .u64 (powS p X I) ∧ i = .int .u8 I ∧ Drawn0 w3 wr) (fun _ _ i _ => N' - (intOf i).toNat)
    case atStart => exact ⟨0, Nat.zero_le _, rfl, by rw [H1.out], rfl, ⟨0, rfl⟩⟩
    case round =>
      obtain ⟨I, hI, rfl, rfl, rfl, ⟨q2, rfl⟩⟩ := hrel
      by_cases hlt : I < N'
      · have HE1 : Hid (addS p (geoS p X I) (powS p X I) = geoS p X (I + 1)) := Lib.hid rfl
        have HE2 : Hid (mulS p (powS p X I) X = powS p X (I + 1)) := Lib.hid (powS_succ _ _ _)
        go_wp2_with (first
          | (go_at_call 49; refine (add_calls _ _ _ _ HP.out (u64_geoS _ _ _) (u64_powS _ _ _)).mono ?_; rintro e w' ⟨rfl, rfl⟩)
          | (go_at_call 44; refine (mul_calls _ _ _ _ HP.out (u64_powS _ _ _) HX.out).mono ?_; rintro e w' ⟨rfl, ⟨n2, rfl⟩⟩))
        go_roundw
        case rel => exact ⟨I + 1, by omega, by rw [HE1.out], by rw [HE2.out], by go_num, ⟨_, rfl⟩⟩
        case measure => simp [intOf]; omega
      · have hI2 : I = N' := by omega
        subst hI2
        by_cases hx1 : X = 1
        · subst hx1
          have HG : Hid (geoS p 1 I = I) := Lib.hid (geoS_one HRR.out.known I (by
            rcases knownS_cases HRR.out.known with h | h | h <;> rw [h] <;> omega))
          have hd : I ∣ K := (HRR.out.one_iff K).1 HXE.out
          have f1 : ((K : Int) % (I : Int) == 0) = true := by
            rw [← Int.natCast_emod, Nat.mod_eq_zero_of_dvd hd]; rfl
          have hI0 : ¬ (I : Int) = 0 := by omega
          clear hd
          have HGE := HG.out
          generalize geoS p 1 I = G at *
          subst HGE
          go_wp2
          go_ret
          exact ⟨by first | rfl | (simp; done), below_drewN HB.out _⟩
        · obtain ⟨e1, e2⟩ := HRR.out.sum (k := K) (by rw [HXE.out]; exact hx1)
          rw [HXE.out] at e1 e2
          have f1 : (X == 1) = false := by simpa using hx1
          clear hx1
          generalize geoS p X I = G at *
          generalize powS p X I = Y at *
          subst e1
          subst e2
          go_wp2
          go_ret
          exact ⟨by first | rfl | (simp; done), below_drewN HB.out _⟩
  · have HZ : Hid ((rootS p N).1 = 0) := Lib.hid (rootS_no hz)
    have f0 : ((rootS p N).2 != 0) = true := by simpa using hz
    clear hz hp
    go_enter Try.func15, Try.ntmps15
    go_wp2_with fail
    refine (live03_calls _).mono ?_
    rintro e w1 ⟨rfl, hb1⟩
    go_wp2_with fail
    refine (root_calls _ _ _ HP.out).mono ?_
    rw [HZ.out]
    rintro e w2 ⟨rfl, hb2⟩
    go_wp2
    have hb := hb1.trans (hb2.mono hb1.size)
    go_ret
    exact ⟨by first | rfl | (simp; done), hb⟩
end Go.Proofs.Ytkofhmiakfmcaaa.P
