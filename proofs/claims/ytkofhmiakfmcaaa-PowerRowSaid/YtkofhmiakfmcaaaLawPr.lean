/- The law PowerRow, walked. Conditions: words of their kinds. -/
import Derived.Test.YtkofhmiakfmcaaaPow2
namespace Go.Proofs.Ytkofhmiakfmcaaa.P
open Go.RowKit
set_option linter.unusedVariables false
set_option linter.unusedSimpArgs false
theorem powerRow_walk (p a many : Int) (w : World) (hp : U64 p) (ha : U64 a) (hm : 0 ≤ many ∧ many < 256) :
    Calls Try.prog 13 #[.int .u64 p, .int .u64 a, .int .u8 many] w fun e w' => e = .returned (.bool true) ∧ Below w.heap.size w w' := by
  have HA := Lib.hid ha
  have HP := Lib.hid hp
  clear ha hp
  obtain ⟨m0, m1⟩ := hm
  have HM : Hid (i64 many) := Lib.hid ⟨by omega, by omega⟩
  by_cases hk : knownS p = true
  · obtain ⟨n, rfl⟩ := Int.eq_ofNat_of_zero_le m0
    have HF : Hid (powersS p a n = ((List.range n).map (powS p a), 0)) := Lib.hid (by rw [powersS, if_pos hk, if_pos ⟨m0, by omega⟩, Int.toNat_natCast])
    have HL : Hid (((List.range n).map (powS p a)).length = n) := Lib.hid (by simp)
    go_enter Try.func13, Try.ntmps13
    go_wp2_with fail
    refine (live02_calls _).mono ?_
    rintro e w' ⟨rfl, ⟨q0, rfl⟩⟩
    go_wp2_with fail
    refine (powers_calls _ _ _ _ HP.out HA.out HM.out).mono ?_
    rw [HF.out, show (((List.range n).map (powS p a), (0 : Int)).1) = (List.range n).map (powS p a) from rfl, show (((List.range n).map (powS p a), (0 : Int)).2) = 0 from rfl, HL.out]
    rintro e w1 ⟨A, c, rfl, ho, hb⟩
    have HR := Lib.hid (ho.row)
    have HB := Lib.hid (below_pre hb)
    have hn : n ≤ 255 := by omega
    by_cases hn0 : n = 0
    · subst hn0
      clear ho hb m0 m1
      go_wp2_with fail
      refine wp_loop_once ?_
      go_wp2_with fail
      go_ret
      exact ⟨rfl, HB.out⟩
    · obtain ⟨x, rfl⟩ := ho.row.some_of (by simp [nums]; omega)
      have HNE := Lib.hid hn0
      clear ho hb m0 m1 hn0
      go_wp2_with fail
      go_loopw [9, 10, 33] (fun _ _ i wr => ∃ k : Nat, k ≤ n ∧ i = .int .i64 k ∧ Drawn0 w1 wr) (fun _ _ i _ => n - (intOf i).toNat)
      case atStart => exact ⟨0, Nat.zero_le _, rfl, ⟨0, rfl⟩⟩
      case round =>
        obtain ⟨k, hkn, rfl, ⟨q3, rfl⟩⟩ := hrel
        by_cases hlt : k < n
        · have hc : w1.cell? (x.add k) = some (.int .u64 (powS p a k)) := by
            have h1 := HR.out.num (i := k) (by simpa using hlt)
            simpa using h1
          have HU : Hid (U64 (k : Int)) := Lib.hid ⟨by omega, by omega⟩
          have f1 : (powS p a k != powS p a ((k : Int)).toNat) = false := by simp
          by_cases hk0 : k = 0
          · subst hk0
            have hc0 : w1.cell? x = some (.int .u64 (powS p a 0)) := by
              have h1 := hc
              simpa [Addr.add] using h1
            rw [show ((0 : Nat) : Int) = 0 from rfl] at *
            clear hc
            have f2 : (powS p a 0 != 1) = false := by rw [powS_zero, one_red hk]; rfl
            go_wp2_with (go_at_call 47; refine (pow_calls _ _ _ _ HP.out HA.out HU.out).mono ?_; rintro e w2 ⟨rfl, ⟨q4, rfl⟩⟩)
            go_roundw
            case rel => exact ⟨1, by omega, by go_num, ⟨_, rfl⟩⟩
            case measure => simp [intOf]; omega
          · have hc2 : w1.cell? (x.add (k - 1)) = some (.int .u64 (powS p a (k - 1))) := by
              have h1 := HR.out.num (i := k - 1) (by simp; omega)
              simpa using h1
            have hk1 : 1 ≤ k := by omega
            have f3 : ((k : Int) == 0) = false := by simp; omega
            have f4 : (powS p a k != mulS p (powS p a (k - 1)) a) = false := by
              rw [powS_succ, show k - 1 + 1 = k from by omega]; simp
            clear hk0
            go_wp2_with (first
              | (go_at_call 47; refine (pow_calls _ _ _ _ HP.out HA.out HU.out).mono ?_; rintro e w2 ⟨rfl, ⟨q4, rfl⟩⟩)
              | (go_at_call 44; refine (mul_calls _ _ _ _ HP.out (u64_powS _ _ _) HA.out).mono ?_; rintro e w2 ⟨rfl, ⟨n2, rfl⟩⟩))
            go_roundw
            case rel => exact ⟨k + 1, by omega, by go_num, ⟨_, rfl⟩⟩
            case measure => simp [intOf]; omega
        · have hkn2 : k = n := by omega
          subst hkn2
          go_wp2
          go_ret
          exact ⟨by first | rfl | (simp; done), below_drewN HB.out _⟩
  · have HF : Hid (powersS p a many = ([], 2)) := Lib.hid (by rw [powersS, if_neg hk])
    have hk2 : knownS p = false := by simpa using hk
    clear hk
    go_enter Try.func13, Try.ntmps13
    go_wp2_with fail
    refine (live02_calls _).mono ?_
    rintro e w' ⟨rfl, ⟨q0, rfl⟩⟩
    go_wp2_with fail
    refine (powers_calls _ _ _ _ HP.out HA.out HM.out).mono ?_
    rw [HF.out]
    rintro e w1 ⟨A, c, rfl, ho, hb⟩
    have HB := Lib.hid (below_pre hb)
    clear ho hb
    go_wp2_with (go_at_call 43; refine (known_calls _ _).mono ?_; rintro e w' ⟨rfl, rfl⟩)
    go_ret
    exact ⟨by first | rfl | (simp; done), HB.out⟩
end Go.Proofs.Ytkofhmiakfmcaaa.P
